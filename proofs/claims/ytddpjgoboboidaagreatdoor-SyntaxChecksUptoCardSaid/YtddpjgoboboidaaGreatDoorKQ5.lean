/- Walks over the form of a tree in the reference. Walks over paths and further conditions in the reference. Walks over one node in the reference. Walks over the text of a node in the reference. -/
import Derived.Test.YtddpjgoboboidaaGreatDoorKQ1
import Derived.Test.YtddpjgoboboidaaGreatDoorKT15
import Derived.Test.YtddpjgoboboidaaGreatDoorKT24
import Derived.Test.YtddpjgoboboidaaGreatDoorKPlE
namespace Go.Ev
open Go Go.Proofs
set_option linter.unusedSimpArgs false
set_option linter.unusedVariables false
set_option maxRecDepth 100000
theorem body_1033f {call : CallF} (hC : call.Sound Tryz.prog TT) (x : Nd) (hlen : x.kids.length < 1100000) (hq : ∀ H, call 57 [x.enc] H = .val (.b false) H)   : EBody Tryz.prog TT 33 [x.enc] (fun w => w = .val (.b false)) := by
 refine en Tryz.f33 rfl rfl (by simp [Tryz.f33]) 21 rfl fun t hw hg => ?_
 have h0 := hg 0 _ rfl
 clear hg
 try simp only [Nd.enc_eq] at *
 apply rS hC
 · iterate 2 refine oA ?_
   rfl
 iterate 2 apply sQ
 refine Tri.freeze_put 1 30 (v := .ipt 3 [.agg [.i .i64 x.kind, .s x.text, .isl 3 (Nd.encL x.kids)]] 0 0) (by simp [fz, fzL, nl, nlL, Nd.encL_nl, h0] <;> rfl) ?_
 apply rN hC
 · iterate 3 refine oA ?_
   rfl
 apply sN
 refine cT (by simp [h0, hq] <;> rfl) ?_
 apply rS hC
 · refine oA ?_
   rfl
 apply Tri.ret
 apply sR
 refine endsE (by simp [Tryz.f33] <;> rfl) (by rfl) ?_
 first
  | rfl
  | simp [*]
theorem body_1033t {call : CallF} (hC : call.Sound Tryz.prog TT) (x : Nd) (hlen : x.kids.length < 1100000) (hq : ∀ H, call 57 [x.enc] H = .val (.b true) H) (p : Nd → Bool) (hrec : ∀ y ∈ x.kids, ∀ H, call 33 [y.enc] H = .val (.b (p y)) H)   : EBody Tryz.prog TT 33 [x.enc] (fun w => w = .val (.b (x.kids.all fun y => p y))) := by
 refine en Tryz.f33 rfl rfl (by simp [Tryz.f33]) 21 rfl fun t hw hg => ?_
 have h0 := hg 0 _ rfl
 clear hg
 try simp only [Nd.enc_eq] at *
 apply rS hC
 · iterate 2 refine gO (by simp [h0, hq, Nd.encL_length] <;> rfl) ?_
   rfl
 iterate 2 apply sQ
 refine Tri.freeze_put 1 30 (v := .ipt 3 [.agg [.i .i64 x.kind, .s x.text, .isl 3 (Nd.encL x.kids)]] 0 0) (by simp [fz, fzL, nl, nlL, Nd.encL_nl, h0] <;> rfl) ?_
 apply rN hC
 · iterate 3 refine gO (by simp [h0, hq, Nd.encL_length] <;> rfl) ?_
   rfl
 apply sN
 refine cF (by simp [h0, hq, Nd.encL_length] <;> rfl) ?_
 apply Tri.skip
 apply sN
 apply sQ
 apply rS hC
 · refine gO (by simp [h0, hq, Nd.encL_length] <;> rfl) ?_
   rfl
 apply bK
 refine Tri.loop ?_
 refine loop1033 hC x.kind x.text p x.kids [] _ _ (fun y hy H => by rw [Nd.enc_eq y]; exact hrec y hy H) (by simpa using hlen) (by simp [hw]) (by simp) (by simp) ?exit ?ret
 case exit =>
  intro t2 H2 hw hr h1
  have h4 : True := trivial
  refine inBlk_exit ?_
  apply sN
  apply rS hC
  · refine gO (by simp [h0, hq, Nd.encL_length] <;> rfl) ?_
    rfl
  apply Tri.ret
  rw [hr]
  refine endsE (by simp [Tryz.f33, h4] <;> rfl) (by rfl) ?_
  rfl
 case ret =>
  intro t2 H2 hr h4
  apply bR
  apply sR
  rw [hr]
  refine endsE (by simp [Tryz.f33, h4] <;> rfl) (by rfl) ?_
  rfl
theorem body_1103t {call : CallF} (hC : call.Sound Tryz.prog TT) (x : Nd) (hlen : x.kids.length < 1100000) (hk : (x.kind == 34) = true) (p : Nd → Bool) (hrec : ∀ y ∈ x.kids, ∀ H, call 103 [y.enc] H = .val (.b (p y)) H)   : EBody Tryz.prog TT 103 [x.enc] (fun w => w = .val (.b (x.kids.all fun y => p y))) := by
 refine en Tryz.f103 rfl rfl (by simp [Tryz.f103]) 39 rfl fun t hw hg => ?_
 have h0 := hg 0 _ rfl
 clear hg
 try simp only [Nd.enc_eq] at *
 apply rS hC
 · iterate 2 refine gO (by simp [h0, hk, Nd.encL_length] <;> rfl) ?_
   rfl
 iterate 2 apply sQ
 refine Tri.freeze_put 1 30 (v := .ipt 3 [.agg [.i .i64 x.kind, .s x.text, .isl 3 (Nd.encL x.kids)]] 0 0) (by simp [fz, fzL, nl, nlL, Nd.encL_nl, h0] <;> rfl) ?_
 apply rN hC
 · iterate 3 refine gO (by simp [h0, hk, Nd.encL_length] <;> rfl) ?_
   rfl
 apply sN
 refine cT (by simp [h0, hk, Nd.encL_length] <;> rfl) ?_
 apply sQ
 apply rS hC
 · refine gO (by simp [h0, hk, Nd.encL_length] <;> rfl) ?_
   rfl
 apply bK
 refine Tri.loop ?_
 refine loop1103 hC x.kind x.text p x.kids [] _ _ (fun y hy H => by rw [Nd.enc_eq y]; exact hrec y hy H) (by simpa using hlen) (by simp [hw]) (by simp) (by simp) ?exit ?ret
 case exit =>
  intro t2 H2 hw hr h1
  have h4 : True := trivial
  refine inBlk_exit ?_
  apply sN
  apply rS hC
  · refine gO (by simp [h0, hk, Nd.encL_length] <;> rfl) ?_
    rfl
  apply Tri.ret
  apply sR
  rw [hr]
  refine endsE (by simp [Tryz.f103, h4] <;> rfl) (by rfl) ?_
  rfl
 case ret =>
  intro t2 H2 hr h4
  apply bR
  iterate 2 apply sR
  rw [hr]
  refine endsE (by simp [Tryz.f103, h4] <;> rfl) (by rfl) ?_
  rfl
theorem body_1103f {call : CallF} (hC : call.Sound Tryz.prog TT) (x : Nd) (hk : (x.kind == 34) = false)  : EBody Tryz.prog TT 103 [x.enc] (fun w => w = .val (.b (x.kind == 23 || x.kind == 26 || x.kind == 28 || x.kind == 31))) := by
 refine en Tryz.f103 rfl rfl (by simp [Tryz.f103]) 39 rfl fun t hw hg => ?_
 have h0 := hg 0 _ rfl
 clear hg
 try simp only [Nd.enc_eq] at *
 apply rS hC
 · iterate 2 refine oA ?_
   rfl
 iterate 2 apply sQ
 refine Tri.freeze_put 1 30 (v := .ipt 3 [.agg [.i .i64 x.kind, .s x.text, .isl 3 (Nd.encL x.kids)]] 0 0) (by simp [fz, fzL, nl, nlL, Nd.encL_nl, h0] <;> rfl) ?_
 apply rN hC
 · iterate 3 refine oA ?_
   rfl
 apply sN
 refine cF (by simp [h0, hk] <;> rfl) ?_
 apply Tri.skip
 apply sN
 apply sQ
 cases hB1 : (x.kind == 23 : Bool)
 case false =>
  cases hB2 : (x.kind == 26 : Bool)
  case false =>
   cases hB3 : (x.kind == 28 : Bool)
   case false =>
    apply rN hC
    · iterate 4 refine oA ?_
      iterate 3 refine oB ?_
      iterate 2 refine oA ?_
      iterate 3 refine oB ?_
      iterate 2 refine oA ?_
      iterate 3 refine oB ?_
      iterate 2 refine oA ?_
      rfl
    apply sN
    apply Tri.ret
    refine endsE (by simp [Tryz.f103] <;> rfl) (by rfl) ?_
    first
     | rfl
     | simp [*]
   case true =>
    apply rN hC
    · iterate 4 refine oA ?_
      iterate 3 refine oB ?_
      iterate 2 refine oA ?_
      iterate 3 refine oB ?_
      iterate 2 refine oA ?_
      iterate 3 refine oC ?_
      iterate 2 refine oA ?_
      rfl
    apply sN
    apply Tri.ret
    refine endsE (by simp [Tryz.f103] <;> rfl) (by rfl) ?_
    first
     | rfl
     | simp [*]
  case true =>
   apply rN hC
   · iterate 4 refine oA ?_
     iterate 3 refine oB ?_
     iterate 2 refine oA ?_
     iterate 3 refine oC ?_
     iterate 2 refine oA ?_
     iterate 3 refine oC ?_
     iterate 2 refine oA ?_
     rfl
   apply sN
   apply Tri.ret
   refine endsE (by simp [Tryz.f103] <;> rfl) (by rfl) ?_
   first
    | rfl
    | simp [*]
 case true =>
  apply rN hC
  · iterate 4 refine oA ?_
    iterate 3 refine oC ?_
    iterate 2 refine oA ?_
    iterate 3 refine oC ?_
    iterate 2 refine oA ?_
    iterate 3 refine oC ?_
    iterate 2 refine oA ?_
    rfl
  apply sN
  apply Tri.ret
  refine endsE (by simp [Tryz.f103] <;> rfl) (by rfl) ?_
  first
   | rfl
   | simp [*]
theorem body_1017a {call : CallF} (hC : call.Sound Tryz.prog TT) (x : Nd) (n d : Nat) (hs : ∀ H, call 16 [x.enc] H = .val (.tup [.i .i64 n, .i .i64 d]) H) (hn : (4000 : Int) < n)  : EBody Tryz.prog TT 17 [x.enc] (fun w => w = .val (.i .i64 4)) := by
 refine en Tryz.f17 rfl rfl (by simp [Tryz.f17]) 19 rfl fun t hw hg => ?_
 have h0 := hg 0 _ rfl
 clear hg
 try simp only [Nd.enc_eq] at *
 have hF := ai @h0 (ai @hs @hn)
 apply rS hC
 · iterate 2 refine oA ?_
   rfl
 iterate 2 apply sQ
 refine Tri.freeze_put 1 30 (v := .ipt 3 [.agg [.i .i64 x.kind, .s x.text, .isl 3 (Nd.encL x.kids)]] 0 0) (by simp [fz, fzL, nl, nlL, Nd.encL_nl, h0] <;> rfl) ?_
 apply rN hC
 · iterate 7 refine oA ?_
   rfl
 apply sN
 apply rS hC
 · iterate 3 refine oA ?_
   iterate 2 refine oC ?_
   refine oA ?_
   rfl
 refine cT (by simp [hF] <;> rfl) ?_
 apply rS hC
 · refine oA ?_
   rfl
 apply Tri.ret
 apply sR
 refine endsE (by simp [Tryz.f17] <;> rfl) (by rfl) ?_
 first
  | rfl
  | simp [*]
theorem body_1017b {call : CallF} (hC : call.Sound Tryz.prog TT) (x : Nd) (n d : Nat) (hs : ∀ H, call 16 [x.enc] H = .val (.tup [.i .i64 n, .i .i64 d]) H) (hn : ¬ (4000 : Int) < n) (hd : (100 : Int) < d)  : EBody Tryz.prog TT 17 [x.enc] (fun w => w = .val (.i .i64 4)) := by
 refine en Tryz.f17 rfl rfl (by simp [Tryz.f17]) 19 rfl fun t hw hg => ?_
 have h0 := hg 0 _ rfl
 clear hg
 try simp only [Nd.enc_eq] at *
 have hF := ai @h0 (ai @hs (ai @hn @hd))
 apply rS hC
 · iterate 2 refine oA ?_
   rfl
 iterate 2 apply sQ
 refine Tri.freeze_put 1 30 (v := .ipt 3 [.agg [.i .i64 x.kind, .s x.text, .isl 3 (Nd.encL x.kids)]] 0 0) (by simp [fz, fzL, nl, nlL, Nd.encL_nl, h0] <;> rfl) ?_
 apply rN hC
 · iterate 7 refine oA ?_
   rfl
 apply sN
 apply rS hC
 · iterate 3 refine oA ?_
   iterate 2 refine oB ?_
   refine oA ?_
   rfl
 refine cT (by simp [hF] <;> rfl) ?_
 apply rS hC
 · refine oA ?_
   rfl
 apply Tri.ret
 apply sR
 refine endsE (by simp [Tryz.f17] <;> rfl) (by rfl) ?_
 first
  | rfl
  | simp [*]
theorem body_1017c {call : CallF} (hC : call.Sound Tryz.prog TT) (x : Nd) (n d : Nat) (hs : ∀ H, call 16 [x.enc] H = .val (.tup [.i .i64 n, .i .i64 d]) H) (hn : ¬ (4000 : Int) < n) (hd : ¬ (100 : Int) < d) (hq : ∀ H, call 33 [x.enc] H = .val (.b false) H)  : EBody Tryz.prog TT 17 [x.enc] (fun w => w = .val (.i .i64 2)) := by
 refine en Tryz.f17 rfl rfl (by simp [Tryz.f17]) 19 rfl fun t hw hg => ?_
 have h0 := hg 0 _ rfl
 clear hg
 try simp only [Nd.enc_eq] at *
 have hF := ai @h0 (ai @hs (ai @hn (ai @hd @hq)))
 apply rS hC
 · iterate 2 refine oA ?_
   rfl
 iterate 2 apply sQ
 refine Tri.freeze_put 1 30 (v := .ipt 3 [.agg [.i .i64 x.kind, .s x.text, .isl 3 (Nd.encL x.kids)]] 0 0) (by simp [fz, fzL, nl, nlL, Nd.encL_nl, h0] <;> rfl) ?_
 apply rN hC
 · iterate 7 refine oA ?_
   rfl
 apply sN
 apply rS hC
 · iterate 3 refine oA ?_
   iterate 2 refine oB ?_
   refine oA ?_
   rfl
 refine cF (by simp [hF] <;> rfl) ?_
 apply Tri.skip
 apply sN
 apply sQ
 apply rS hC
 · iterate 3 refine oA ?_
   rfl
 refine cT (by simp [hF] <;> rfl) ?_
 apply rS hC
 · refine oA ?_
   rfl
 apply Tri.ret
 apply sR
 refine endsE (by simp [Tryz.f17] <;> rfl) (by rfl) ?_
 first
  | rfl
  | simp [*]
theorem body_1017d {call : CallF} (hC : call.Sound Tryz.prog TT) (x : Nd) (n d : Nat) (hs : ∀ H, call 16 [x.enc] H = .val (.tup [.i .i64 n, .i .i64 d]) H) (hn : ¬ (4000 : Int) < n) (hd : ¬ (100 : Int) < d) (hq : ∀ H, call 33 [x.enc] H = .val (.b true) H)  : EBody Tryz.prog TT 17 [x.enc] (fun w => w = .val (.i .i64 0)) := by
 refine en Tryz.f17 rfl rfl (by simp [Tryz.f17]) 19 rfl fun t hw hg => ?_
 have h0 := hg 0 _ rfl
 clear hg
 try simp only [Nd.enc_eq] at *
 have hF := ai @h0 (ai @hs (ai @hn (ai @hd @hq)))
 apply rS hC
 · iterate 2 refine oA ?_
   rfl
 iterate 2 apply sQ
 refine Tri.freeze_put 1 30 (v := .ipt 3 [.agg [.i .i64 x.kind, .s x.text, .isl 3 (Nd.encL x.kids)]] 0 0) (by simp [fz, fzL, nl, nlL, Nd.encL_nl, h0] <;> rfl) ?_
 apply rN hC
 · iterate 7 refine oA ?_
   rfl
 apply sN
 apply rS hC
 · iterate 3 refine oA ?_
   iterate 2 refine oB ?_
   refine oA ?_
   rfl
 refine cF (by simp [hF] <;> rfl) ?_
 apply Tri.skip
 apply sN
 apply sQ
 apply rS hC
 · iterate 3 refine oA ?_
   rfl
 refine cF (by simp [hF] <;> rfl) ?_
 apply Tri.skip
 apply sN
 apply rS hC
 · refine oA ?_
   rfl
 apply Tri.ret
 refine endsE (by simp [Tryz.f17] <;> rfl) (by rfl) ?_
 first
  | rfl
  | simp [*]
def pathG (s : List UInt8) : Nat → Nat → Nat → Bool
  | 0, _, _ => true
  | n + 1, i, j => if s.length < i then true else if s.length = i ∨ atR s i = 47 then isIdR ((s.take i).drop j) && pathG s n (i + 1) (i + 1) else pathG s n (i + 1) j
theorem loop1097 {call : CallF} (hC : call.Sound Tryz.prog TT) (s : List UInt8) (hs : s.length < 100000000) (hid : ∀ x : List UInt8, ∀ H, call 98 [.s x] H = .val (.b (isIdR x)) H) {Q : Out → Prop} : ∀ (n i j : Nat) (t : Tm) (H : Heap), s.length + 2 - i ≤ n → i ≤ s.length + 1 → j ≤ i →
    t.wid = 29 → t.get 0 = .s s → t.get 3 = .i .i64 j → t.get 4 = .i .i64 i →
    (∀ t' H', t'.wid = 29 → pathG s n i j = true → Q (.exit 0 t' H')) → (∀ t' H', pathG s n i j = false → t'.get 2 = .b false → Q (.ret t' H')) →
    LTri Tryz.prog TT (sub [true, true, false, true, false, false] (bodyOf Tryz.f97)) t H Q := by
 intro n
 induction n with
 | zero =>
   intro i j t H hn hi hj
   omega
 | succ n ih =>
   intro i j t H hn hi hj hw h0 h3 h4 hE hR
   by_cases hle : i ≤ s.length
   · have hin : (i : Int) ≤ s.length := by omega
     have hsl : ¬ s.length < i := by omega
     have hij : (j : Int) ≤ i := by omega
     have hij2 : j ≤ i := hj
     have hin2 : i ≤ s.length := hle
     have hin0 : ¬ ((s.length : Int) < i) := by omega
     by_cases he0 : s.length = i
     · have he : ((i : Int) == s.length) = true := by rw [beq_iff_eq]; omega
       have hpg : pathG s (n + 1) i j = (isIdR ((s.take i).drop j) && pathG s n (i + 1) (i + 1)) := by rw [pathG, if_neg hsl, if_pos (.inl he0)]
       cases hq0 : isIdR ((s.take i).drop j) with
       | false =>
         have hq : ∀ H, call 98 [.s ((s.take i).drop j)] H = .val (.b false) H := fun H => by rw [hid, hq0]
         have hF := ai @h0 (ai @h3 (ai @h4 (ai @hin (ai @hsl (ai @hij (ai @hij2 (ai @hin2 (ai @hin0 (ai @he @hq)))))))))
         refine LTri.round' ?_
         apply sQ
         apply rS hC
         · iterate 4 refine oA ?_
           rfl
         refine cT (by simp [hF] <;> rfl) ?_
         apply Tri.skip
         apply sN
         apply sQ
         apply bK
         apply rS hC
         · iterate 5 refine oA ?_
           iterate 4 refine oC ?_
           refine oA ?_
           rfl
         refine cT (by simp [hF] <;> rfl) ?_
         apply sQ
         apply rS hC
         · iterate 6 refine oA ?_
           rfl
         refine cT (by simp [hF] <;> rfl) ?_
         apply rS hC
         · refine oA ?_
           rfl
         apply Tri.ret
         apply sR
         apply bR
         apply sR
         refine inLoop_ret ?_
         exact hR _ _ (by rw [hpg, hq0]; rfl) (by simp)
       | true =>
         have hq : ∀ H, call 98 [.s ((s.take i).drop j)] H = .val (.b true) H := fun H => by rw [hid, hq0]
         rw [hq0, Bool.true_and] at hpg
         have hF := ai @h0 (ai @h3 (ai @h4 (ai @hin (ai @hsl (ai @hij (ai @hij2 (ai @hin2 (ai @hin0 (ai @he @hq)))))))))
         refine LTri.round' ?_
         apply sQ
         apply rS hC
         · iterate 4 refine oA ?_
           rfl
         refine cT (by simp [hF] <;> rfl) ?_
         apply Tri.skip
         apply sN
         apply sQ
         apply bK
         apply rS hC
         · iterate 5 refine oA ?_
           iterate 4 refine oC ?_
           refine oA ?_
           rfl
         refine cT (by simp [hF] <;> rfl) ?_
         apply sQ
         apply rS hC
         · iterate 6 refine oA ?_
           rfl
         refine cF (by simp [hF] <;> rfl) ?_
         apply Tri.skip
         apply sN
         apply rN hC
         · iterate 3 refine oA ?_
           rfl
         apply bN
         apply sN
         apply rN hC
         · iterate 3 refine oA ?_
           rfl
         refine inLoop_norm ?_
         refine ih (i + 1) (i + 1) _ _ (by omega) (by omega) (by omega) (by simp [hw]) (by simp [h0]) (by simp [h3]; exact wrap_i64 (by omega) (by omega)) (by simp [h4]; exact wrap_i64 (by omega) (by omega)) (fun t' H' k1 k2 => hE t' H' k1 (by rw [hpg]; exact k2)) (fun t' H' k1 k2 => hR t' H' (by rw [hpg]; exact k1) k2)
     · have he : ((i : Int) == s.length) = false := by rw [beq_eq_false_iff_ne]; omega
       obtain ⟨b, hat⟩ : ∃ b, s[i]? = some b := ⟨s[i]'(by omega), List.getElem?_eq_getElem _⟩
       have hat2 : ∀ h, s[i]'h = b := fun h => Option.some.inj ((List.getElem?_eq_getElem h).symm.trans hat)
       have hatR : atR s i = b.toNat := atR_get hat
       by_cases hc0 : atR s i = 47
       · have hc : ((b.toNat : Int) == 47) = true := by rw [← hatR, hc0]; rfl
         have hpg : pathG s (n + 1) i j = (isIdR ((s.take i).drop j) && pathG s n (i + 1) (i + 1)) := by rw [pathG, if_neg hsl, if_pos (.inr hc0)]
         cases hq0 : isIdR ((s.take i).drop j) with
         | false =>
           have hq : ∀ H, call 98 [.s ((s.take i).drop j)] H = .val (.b false) H := fun H => by rw [hid, hq0]
           have hF := ai @h0 (ai @h3 (ai @h4 (ai @hin (ai @hsl (ai @hij (ai @hij2 (ai @hin2 (ai @hin0 (ai @he (ai @hq (ai @hat (ai @hat2 @hc))))))))))))
           refine LTri.round' ?_
           apply sQ
           apply rS hC
           · iterate 4 refine oA ?_
             rfl
           refine cT (by simp [hF] <;> rfl) ?_
           apply Tri.skip
           apply sN
           apply sQ
           apply bK
           apply rS hC
           · iterate 5 refine oA ?_
             iterate 4 refine oB ?_
             refine oA ?_
             rfl
           refine cT (by simp [hF] <;> rfl) ?_
           apply sQ
           apply rS hC
           · iterate 6 refine oA ?_
             rfl
           refine cT (by simp [hF] <;> rfl) ?_
           apply rS hC
           · refine oA ?_
             rfl
           apply Tri.ret
           apply sR
           apply bR
           apply sR
           refine inLoop_ret ?_
           exact hR _ _ (by rw [hpg, hq0]; rfl) (by simp)
         | true =>
           have hq : ∀ H, call 98 [.s ((s.take i).drop j)] H = .val (.b true) H := fun H => by rw [hid, hq0]
           rw [hq0, Bool.true_and] at hpg
           have hF := ai @h0 (ai @h3 (ai @h4 (ai @hin (ai @hsl (ai @hij (ai @hij2 (ai @hin2 (ai @hin0 (ai @he (ai @hq (ai @hat (ai @hat2 @hc))))))))))))
           refine LTri.round' ?_
           apply sQ
           apply rS hC
           · iterate 4 refine oA ?_
             rfl
           refine cT (by simp [hF] <;> rfl) ?_
           apply Tri.skip
           apply sN
           apply sQ
           apply bK
           apply rS hC
           · iterate 5 refine oA ?_
             iterate 4 refine oB ?_
             refine oA ?_
             rfl
           refine cT (by simp [hF] <;> rfl) ?_
           apply sQ
           apply rS hC
           · iterate 6 refine oA ?_
             rfl
           refine cF (by simp [hF] <;> rfl) ?_
           apply Tri.skip
           apply sN
           apply rN hC
           · iterate 3 refine oA ?_
             rfl
           apply bN
           apply sN
           apply rN hC
           · iterate 3 refine oA ?_
             rfl
           refine inLoop_norm ?_
           refine ih (i + 1) (i + 1) _ _ (by omega) (by omega) (by omega) (by simp [hw]) (by simp [h0]) (by simp [h3]; exact wrap_i64 (by omega) (by omega)) (by simp [h4]; exact wrap_i64 (by omega) (by omega)) (fun t' H' k1 k2 => hE t' H' k1 (by rw [hpg]; exact k2)) (fun t' H' k1 k2 => hR t' H' (by rw [hpg]; exact k1) k2)
       · have hc : ((b.toNat : Int) == 47) = false := by rw [← hatR, beq_eq_false_iff_ne]; exact hc0
         have hpg : pathG s (n + 1) i j = pathG s n (i + 1) j := by rw [pathG, if_neg hsl, if_neg (by rintro (h | h); exact he0 h; exact hc0 h)]
         have hF := ai @h0 (ai @h3 (ai @h4 (ai @hin (ai @hsl (ai @hij (ai @hij2 (ai @hin2 (ai @hin0 (ai @he (ai @hat (ai @hat2 @hc)))))))))))
         refine LTri.round' ?_
         apply sQ
         apply rS hC
         · iterate 4 refine oA ?_
           rfl
         refine cT (by simp [hF] <;> rfl) ?_
         apply Tri.skip
         apply sN
         apply sQ
         apply bK
         apply rS hC
         · iterate 5 refine oA ?_
           iterate 4 refine oB ?_
           refine oA ?_
           rfl
         refine cF (by simp [hF] <;> rfl) ?_
         apply Tri.skip
         apply bN
         apply sN
         apply rN hC
         · iterate 3 refine oA ?_
           rfl
         refine inLoop_norm ?_
         refine ih (i + 1) j _ _ (by omega) (by omega) (by omega) (by simp [hw]) (by simp [h0]) (by simp [h3]) (by simp [h4]; exact wrap_i64 (by omega) (by omega)) (fun t' H' k1 k2 => hE t' H' k1 (by rw [hpg]; exact k2)) (fun t' H' k1 k2 => hR t' H' (by rw [hpg]; exact k1) k2)
   · have hout : ¬ (i : Int) ≤ s.length := by omega
     have hout2 : s.length < i := by omega
     have hF := ai @h0 (ai @h3 (ai @h4 @hout))
     refine LTri.round' ?_
     apply sQ
     apply rS hC
     · iterate 4 refine oA ?_
       rfl
     refine cF (by simp [hF] <;> rfl) ?_
     refine Tri.exit ?_
     refine inSeq_exit ?_
     refine inLoop_exit ?_
     exact hE _ _ (by simp [hw]) (by simp [pathG, hout2])

theorem body_1097p {call : CallF} (hC : call.Sound Tryz.prog TT) (s : List UInt8) (hs : s.length < 100000000) (hid : ∀ x : List UInt8, ∀ H, call 98 [.s x] H = .val (.b (isIdR x)) H)  : EBody Tryz.prog TT 97 [.s s] (fun w => w = .val (.b (pathG s (s.length + 2) 0 0))) := by
 refine en Tryz.f97 rfl rfl (by simp [Tryz.f97]) 29 rfl fun t hw hg => ?_
 have h0 := hg 0 _ rfl
 clear hg
 try simp only [Nd.enc_eq] at *
 apply rS hC
 · refine oA ?_
   rfl
 apply rS hC
 · refine oA ?_
   rfl
 apply sQ
 apply rS hC
 · refine oA ?_
   rfl
 apply bK
 refine Tri.loop ?_
 refine loop1097 hC s hs hid (s.length + 2) 0 0 _ _ (by omega) (by omega) (by omega) (by simp [hw]) (by simp [h0]) (by simp) (by simp) ?exit ?ret
 case exit =>
  intro t2 H2 hw hr
  have h4 : True := trivial
  refine inBlk_exit ?_
  apply sN
  apply rS hC
  · refine oA ?_
    rfl
  apply Tri.ret
  rw [hr]
  refine endsE (by simp [Tryz.f97, h4] <;> rfl) (by rfl) ?_
  rfl
 case ret =>
  intro t2 H2 hr h4
  apply bR
  apply sR
  rw [hr]
  refine endsE (by simp [Tryz.f97, h4] <;> rfl) (by rfl) ?_
  rfl
def ordF : Bool → List Nd → Bool
  | _, [] => true
  | last, y :: l => if (y.kind == 3 || y.kind == 32) = true then ordF true l else if last = true then false else ordF false l
theorem loop1084 {call : CallF} (hC : call.Sound Tryz.prog TT) (k : Int) (s : List UInt8) {Q : Out → Prop} : ∀ (L pre : List Nd) (last : Bool) (t : Tm) (H : Heap), (pre ++ L).length < 1100000 →
    t.wid = 90 → t.get 1 = .ipt 3 [.agg [.i .i64 k, .s s, .isl 3 (Nd.encL (pre ++ L))]] 0 0 → t.get 3 = .i .i64 (if last = true then 1 else 0) → t.get 4 = .i .i64 pre.length →
    (∀ t' H', t'.wid = 90 → ordF last L = true → Q (.exit 1 t' H')) → (∀ t' H', ordF last L = false → t'.get 2 = .b false → Q (.ret t' H')) →
    LTri Tryz.prog TT (sub [true, false, true, false, true, false, true, true, false, false] (bodyOf Tryz.f84)) t H Q := by
 intro L
 induction L with
 | nil =>
   intro pre last t H hlen hw h1 h3 h4 hE hR
   have hF := ai @h1 (ai @h4 @h3)
   refine LTri.round' ?_
   apply sQ
   apply rS hC
   · iterate 5 refine gO (by simp [hF, Nd.encL_length, Nd.enc_eq] <;> rfl) ?_
     rfl
   refine cF (by simp [hF, Nd.encL_length, Nd.enc_eq] <;> rfl) ?_
   refine Tri.exit ?_
   refine inSeq_exit ?_
   refine inLoop_exit ?_
   exact hE _ _ (by simp [hw]) (by simp [ordF])
 | cons x L ih =>
   intro pre last t H hlen hw h1 h3 h4 hE hR
   have hlt := fin_len pre.length L.length
   have hat := encL_at pre x L
   have hat2 := encL_at2 pre x L
   simp only [Nd.enc_eq] at hat hat2
   cases k3 : (x.kind == 3) with
   | true =>
     have k32 : True := trivial
     have hof : ordF last (x :: L) = ordF true L := by rw [ordF, if_pos (by rw [k3]; rfl)]
     have hF := ai @h1 (ai @h4 (ai @h3 (ai @hlt (ai @hat (ai @hat2 (ai @k3 @k32))))))
     refine LTri.round' ?_
     apply sQ
     apply rS hC
     · iterate 5 refine gO (by simp [hF, Nd.encL_length, Nd.enc_eq] <;> rfl) ?_
       rfl
     refine cT (by simp [hF, Nd.encL_length, Nd.enc_eq] <;> rfl) ?_
     apply Tri.skip
     apply sN
     apply sQ
     apply bK
     apply rS hC
     · iterate 7 refine gO (by simp [hF, Nd.encL_length, Nd.enc_eq] <;> rfl) ?_
       rfl
     apply rS hC
     · iterate 3 refine gO (by simp [hF, Nd.encL_length, Nd.enc_eq] <;> rfl) ?_
       iterate 2 refine gF (by simp [wants, hF, Nd.encL_length, Nd.enc_eq]) ?_
       iterate 2 refine gO (by simp [hF, Nd.encL_length, Nd.enc_eq] <;> rfl) ?_
       rfl
     apply sQ
     apply rS hC
     · iterate 3 refine gO (by simp [hF, Nd.encL_length, Nd.enc_eq] <;> rfl) ?_
       iterate 2 refine gF (by simp [wants, hF, Nd.encL_length, Nd.enc_eq]) ?_
       refine gO (by simp [hF, Nd.encL_length, Nd.enc_eq] <;> rfl) ?_
       rfl
     refine cF (by simp [hF, Nd.encL_length, Nd.enc_eq] <;> rfl) ?_
     apply Tri.skip
     apply sN
     apply rS hC
     · refine gO (by simp [hF, Nd.encL_length, Nd.enc_eq] <;> rfl) ?_
       rfl
     refine cT (by simp [hF, Nd.encL_length, Nd.enc_eq] <;> rfl) ?_
     apply rN hC
     · refine gO (by simp [hF, Nd.encL_length, Nd.enc_eq] <;> rfl) ?_
       rfl
     apply bN
     apply sN
     apply rN hC
     · iterate 3 refine gO (by simp [hF, Nd.encL_length, Nd.enc_eq] <;> rfl) ?_
       rfl
     refine inLoop_norm ?_
     refine ih (pre ++ [x]) true _ _ (by simpa using hlen) (by simp [hw]) (by simp [h1]) (by simp) (by simp; exact wrap_i64 (by omega) (by simp at hlen; omega)) (fun t' H' k1 k2 => hE t' H' k1 (by rw [hof]; exact k2)) (fun t' H' k1 k2 => hR t' H' (by rw [hof]; exact k1) k2)
   | false =>
     cases k32 : (x.kind == 32) with
     | true =>
       have hof : ordF last (x :: L) = ordF true L := by rw [ordF, if_pos (by rw [k32]; simp)]
       have hF := ai @h1 (ai @h4 (ai @h3 (ai @hlt (ai @hat (ai @hat2 (ai @k3 @k32))))))
       refine LTri.round' ?_
       apply sQ
       apply rS hC
       · iterate 5 refine gO (by simp [hF, Nd.encL_length, Nd.enc_eq] <;> rfl) ?_
         rfl
       refine cT (by simp [hF, Nd.encL_length, Nd.enc_eq] <;> rfl) ?_
       apply Tri.skip
       apply sN
       apply sQ
       apply bK
       apply rS hC
       · iterate 7 refine gO (by simp [hF, Nd.encL_length, Nd.enc_eq] <;> rfl) ?_
         rfl
       apply rS hC
       · iterate 3 refine gO (by simp [hF, Nd.encL_length, Nd.enc_eq] <;> rfl) ?_
         iterate 2 refine gW (by simp [wants, hF, Nd.encL_length, Nd.enc_eq]) (by simp [hF, Nd.encL_length, Nd.enc_eq] <;> rfl) ?_
         iterate 2 refine gO (by simp [hF, Nd.encL_length, Nd.enc_eq] <;> rfl) ?_
         rfl
       apply sQ
       apply rS hC
       · iterate 3 refine gO (by simp [hF, Nd.encL_length, Nd.enc_eq] <;> rfl) ?_
         iterate 2 refine gF (by simp [wants, hF, Nd.encL_length, Nd.enc_eq]) ?_
         refine gO (by simp [hF, Nd.encL_length, Nd.enc_eq] <;> rfl) ?_
         rfl
       refine cF (by simp [hF, Nd.encL_length, Nd.enc_eq] <;> rfl) ?_
       apply Tri.skip
       apply sN
       apply rS hC
       · refine gO (by simp [hF, Nd.encL_length, Nd.enc_eq] <;> rfl) ?_
         rfl
       refine cT (by simp [hF, Nd.encL_length, Nd.enc_eq] <;> rfl) ?_
       apply rN hC
       · refine gO (by simp [hF, Nd.encL_length, Nd.enc_eq] <;> rfl) ?_
         rfl
       apply bN
       apply sN
       apply rN hC
       · iterate 3 refine gO (by simp [hF, Nd.encL_length, Nd.enc_eq] <;> rfl) ?_
         rfl
       refine inLoop_norm ?_
       refine ih (pre ++ [x]) true _ _ (by simpa using hlen) (by simp [hw]) (by simp [h1]) (by simp) (by simp; exact wrap_i64 (by omega) (by simp at hlen; omega)) (fun t' H' k1 k2 => hE t' H' k1 (by rw [hof]; exact k2)) (fun t' H' k1 k2 => hR t' H' (by rw [hof]; exact k1) k2)
     | false =>
       cases last with
       | true =>
         have hof : ordF true (x :: L) = false := by rw [ordF, if_neg (by rw [k3, k32]; decide), if_pos rfl]
         simp only [if_true] at h3
         have hF := ai @h1 (ai @h4 (ai @h3 (ai @hlt (ai @hat (ai @hat2 (ai @k3 @k32))))))
         refine LTri.round' ?_
         apply sQ
         apply rS hC
         · iterate 5 refine gO (by simp [hF, Nd.encL_length, Nd.enc_eq] <;> rfl) ?_
           rfl
         refine cT (by simp [hF, Nd.encL_length, Nd.enc_eq] <;> rfl) ?_
         apply Tri.skip
         apply sN
         apply sQ
         apply bK
         apply rS hC
         · iterate 7 refine gO (by simp [hF, Nd.encL_length, Nd.enc_eq] <;> rfl) ?_
           rfl
         apply rS hC
         · iterate 3 refine gO (by simp [hF, Nd.encL_length, Nd.enc_eq] <;> rfl) ?_
           iterate 2 refine gW (by simp [wants, hF, Nd.encL_length, Nd.enc_eq]) (by simp [hF, Nd.encL_length, Nd.enc_eq] <;> rfl) ?_
           iterate 2 refine gO (by simp [hF, Nd.encL_length, Nd.enc_eq] <;> rfl) ?_
           rfl
         apply sQ
         apply rS hC
         · iterate 3 refine gO (by simp [hF, Nd.encL_length, Nd.enc_eq] <;> rfl) ?_
           iterate 2 refine gW (by simp [wants, hF, Nd.encL_length, Nd.enc_eq]) (by simp [hF, Nd.encL_length, Nd.enc_eq] <;> rfl) ?_
           refine gO (by simp [hF, Nd.encL_length, Nd.enc_eq] <;> rfl) ?_
           rfl
         refine cT (by simp [hF, Nd.encL_length, Nd.enc_eq] <;> rfl) ?_
         apply rS hC
         · refine gO (by simp [hF, Nd.encL_length, Nd.enc_eq] <;> rfl) ?_
           rfl
         apply Tri.ret
         apply sR
         apply bR
         apply sR
         refine inLoop_ret ?_
         exact hR _ _ (by rw [hof]) (by simp)
       | false =>
         have hof : ordF false (x :: L) = ordF false L := by rw [ordF, if_neg (by rw [k3, k32]; decide), if_neg (by decide)]
         simp only [Bool.false_eq_true, if_false] at h3
         have hF := ai @h1 (ai @h4 (ai @h3 (ai @hlt (ai @hat (ai @hat2 (ai @k3 @k32))))))
         refine LTri.round' ?_
         apply sQ
         apply rS hC
         · iterate 5 refine gO (by simp [hF, Nd.encL_length, Nd.enc_eq] <;> rfl) ?_
           rfl
         refine Tri.condG (o := ?od2) (b := ?bd2) ?gd2 ?rd2 ?yd2 ?nd2
         case gd2 => simp [hF, Nd.encL_length, Nd.enc_eq] <;> rfl
         case rd2 => rfl
         case yd2 =>
          intro hy2
          apply Tri.skip
          apply sN
          apply sQ
          apply bK
          apply rS hC
          · iterate 7 refine gO (by simp [hF, Nd.encL_length, Nd.enc_eq] <;> rfl) ?_
            rfl
          apply rS hC
          · iterate 3 refine gO (by simp [hF, Nd.encL_length, Nd.enc_eq] <;> rfl) ?_
            iterate 2 refine gW (by simp [wants, hF, Nd.encL_length, Nd.enc_eq]) (by simp [hF, Nd.encL_length, Nd.enc_eq] <;> rfl) ?_
            iterate 2 refine gO (by simp [hF, Nd.encL_length, Nd.enc_eq] <;> rfl) ?_
            rfl
          apply sQ
          apply rS hC
          · iterate 3 refine gO (by simp [hF, Nd.encL_length, Nd.enc_eq] <;> rfl) ?_
            iterate 2 refine gW (by simp [wants, hF, Nd.encL_length, Nd.enc_eq]) (by simp [hF, Nd.encL_length, Nd.enc_eq] <;> rfl) ?_
            refine gO (by simp [hF, Nd.encL_length, Nd.enc_eq] <;> rfl) ?_
            rfl
          refine cF (by simp [hF, Nd.encL_length, Nd.enc_eq] <;> rfl) ?_
          apply Tri.skip
          apply sN
          apply rS hC
          · refine gO (by simp [hF, Nd.encL_length, Nd.enc_eq] <;> rfl) ?_
            rfl
          refine cF (by simp [hF, Nd.encL_length, Nd.enc_eq] <;> rfl) ?_
          apply Tri.skip
          apply bN
          apply sN
          apply rN hC
          · iterate 3 refine gO (by simp [hF, Nd.encL_length, Nd.enc_eq] <;> rfl) ?_
            rfl
          refine inLoop_norm ?_
          refine ih (pre ++ [x]) false _ _ (by simpa using hlen) (by simp [hw]) (by simp [h1]) (by simp [h3]) (by simp; exact wrap_i64 (by omega) (by simp at hlen; omega)) (fun t' H' k1 k2 => hE t' H' k1 (by rw [hof]; exact k2)) (fun t' H' k1 k2 => hR t' H' (by rw [hof]; exact k1) k2)
         case nd2 =>
          intro hn2
          exfalso
          simp at hn2

theorem body_1084m {call : CallF} (hC : call.Sound Tryz.prog TT) (x : Nd) (hlen : x.kids.length < 1100000) (hk : (x.kind == 1) = true)  : EBody Tryz.prog TT 84 [x.enc] (fun w => w = .val (.b (ordF false x.kids))) := by
 refine en Tryz.f84 rfl rfl (by simp [Tryz.f84]) 90 rfl fun t hw hg => ?_
 have h0 := hg 0 _ rfl
 clear hg
 try simp only [Nd.enc_eq] at *
 apply rS hC
 · iterate 2 refine gO (by simp [h0, hk, Nd.encL_length] <;> rfl) ?_
   rfl
 iterate 2 apply sQ
 refine Tri.freeze_put 1 30 (v := .ipt 3 [.agg [.i .i64 x.kind, .s x.text, .isl 3 (Nd.encL x.kids)]] 0 0) (by simp [fz, fzL, nl, nlL, Nd.encL_nl, h0] <;> rfl) ?_
 apply rN hC
 · iterate 2 refine gO (by simp [h0, hk, Nd.encL_length] <;> rfl) ?_
   rfl
 apply sN
 apply bK
 apply sQ
 apply rS hC
 · iterate 2 refine gO (by simp [h0, hk, Nd.encL_length] <;> rfl) ?_
   rfl
 refine cT (by simp [h0, hk, Nd.encL_length] <;> rfl) ?_
 apply Tri.skip
 apply sN
 refine cT (by simp [h0, hk, Nd.encL_length] <;> rfl) ?_
 apply rS hC
 · refine gO (by simp [h0, hk, Nd.encL_length] <;> rfl) ?_
   rfl
 apply rS hC
 · refine gO (by simp [h0, hk, Nd.encL_length] <;> rfl) ?_
   rfl
 apply bK
 refine Tri.loop ?_
 refine loop1084 hC x.kind x.text x.kids [] false _ _ (by simpa using hlen) (by simp [hw]) (by simp) (by simp) (by simp) ?exit ?ret
 case exit =>
  intro t2 H2 hw hr
  have h4 : True := trivial
  refine inBlk_exit ?_
  apply bN
  apply sN
  apply rS hC
  · refine gO (by simp [h0, hk, Nd.encL_length] <;> rfl) ?_
    rfl
  apply Tri.ret
  rw [hr]
  refine endsE (by simp [Tryz.f84, h4] <;> rfl) (by rfl) ?_
  rfl
 case ret =>
  intro t2 H2 hr h4
  iterate 2 apply bR
  apply sR
  rw [hr]
  refine endsE (by simp [Tryz.f84, h4] <;> rfl) (by rfl) ?_
  rfl
theorem body_1084c {call : CallF} (hC : call.Sound Tryz.prog TT) (x : Nd) (hlen : x.kids.length < 1100000) (hk1 : (x.kind == 1) = false) (hk : (x.kind == 31) = true)  : EBody Tryz.prog TT 84 [x.enc] (fun w => w = .val (.b (ordF false x.kids))) := by
 refine en Tryz.f84 rfl rfl (by simp [Tryz.f84]) 90 rfl fun t hw hg => ?_
 have h0 := hg 0 _ rfl
 clear hg
 try simp only [Nd.enc_eq] at *
 have hF := ai @h0 (ai @hk1 @hk)
 apply rS hC
 · iterate 2 refine gO (by simp [hF, Nd.encL_length] <;> rfl) ?_
   rfl
 iterate 2 apply sQ
 refine Tri.freeze_put 1 30 (v := .ipt 3 [.agg [.i .i64 x.kind, .s x.text, .isl 3 (Nd.encL x.kids)]] 0 0) (by simp [fz, fzL, nl, nlL, Nd.encL_nl, h0] <;> rfl) ?_
 apply rN hC
 · iterate 2 refine gO (by simp [hF, Nd.encL_length] <;> rfl) ?_
   rfl
 apply sN
 apply bK
 apply sQ
 apply rS hC
 · iterate 2 refine gO (by simp [hF, Nd.encL_length] <;> rfl) ?_
   rfl
 refine cF (by simp [hF, Nd.encL_length] <;> rfl) ?_
 apply rN hC
 · iterate 2 refine gO (by simp [hF, Nd.encL_length] <;> rfl) ?_
   rfl
 apply sN
 refine cT (by simp [hF, Nd.encL_length] <;> rfl) ?_
 apply rS hC
 · refine gO (by simp [hF, Nd.encL_length] <;> rfl) ?_
   rfl
 apply rS hC
 · refine gO (by simp [hF, Nd.encL_length] <;> rfl) ?_
   rfl
 apply bK
 refine Tri.loop ?_
 refine loop1084 hC x.kind x.text x.kids [] false _ _ (by simpa using hlen) (by simp [hw]) (by simp) (by simp) (by simp) ?exit ?ret
 case exit =>
  intro t2 H2 hw hr
  have h4 : True := trivial
  refine inBlk_exit ?_
  apply bN
  apply sN
  apply rS hC
  · refine gO (by simp [hF, Nd.encL_length] <;> rfl) ?_
    rfl
  apply Tri.ret
  rw [hr]
  refine endsE (by simp [Tryz.f84, h4] <;> rfl) (by rfl) ?_
  rfl
 case ret =>
  intro t2 H2 hr h4
  iterate 2 apply bR
  apply sR
  rw [hr]
  refine endsE (by simp [Tryz.f84, h4] <;> rfl) (by rfl) ?_
  rfl
theorem body_1084e {call : CallF} (hC : call.Sound Tryz.prog TT) (x : Nd) (hk1 : (x.kind == 1) = false) (hk31 : (x.kind == 31) = false) (hk : (x.kind == 3) = true) (a b c d : Nd) (r : List Nd) (hl : x.kids = a :: b :: c :: d :: r) (hp0 : (0 : Int) < r.length + 1 + 1 + 1 + 1) (hp3 : (3 : Int) < r.length + 1 + 1 + 1 + 1)  : EBody Tryz.prog TT 84 [x.enc] (fun w => w = .val (.b (!(a.text == [116, 121, 112, 101]) || (((r.length : Int) + 1 + 1 + 1 + 1 == 4) && d.kind != 5)))) := by
 refine en Tryz.f84 rfl rfl (by simp [Tryz.f84]) 90 rfl fun t hw hg => ?_
 have h0 := hg 0 _ rfl
 clear hg
 try simp only [Nd.enc_eq] at *
 have hF := ai @h0 (ai @hk1 (ai @hk31 (ai @hk (ai @hl (ai @hp0 @hp3)))))
 apply rS hC
 · iterate 2 refine gO (by simp [hF, Nd.encL, Nd.encL_length, Nd.enc_eq] <;> rfl) ?_
   rfl
 iterate 2 apply sQ
 refine Tri.freeze_put 1 30 (v := .ipt 3 [.agg [.i .i64 x.kind, .s x.text, .isl 3 (.agg [.i .i64 a.kind, .s a.text, .isl 3 (Nd.encL a.kids)] :: .agg [.i .i64 b.kind, .s b.text, .isl 3 (Nd.encL b.kids)] :: .agg [.i .i64 c.kind, .s c.text, .isl 3 (Nd.encL c.kids)] :: .agg [.i .i64 d.kind, .s d.text, .isl 3 (Nd.encL d.kids)] :: Nd.encL r)]] 0 0) (by simp [fz, fzL, nl, nlL, Nd.encL_nl, h0, hl, Nd.encL, Nd.enc_eq] <;> rfl) ?_
 apply rN hC
 · iterate 2 refine gO (by simp [hF, Nd.encL, Nd.encL_length, Nd.enc_eq] <;> rfl) ?_
   rfl
 apply sN
 apply bK
 apply sQ
 apply rS hC
 · iterate 2 refine gO (by simp [hF, Nd.encL, Nd.encL_length, Nd.enc_eq] <;> rfl) ?_
   rfl
 refine cF (by simp [hF, Nd.encL, Nd.encL_length, Nd.enc_eq] <;> rfl) ?_
 apply rN hC
 · iterate 2 refine gO (by simp [hF, Nd.encL, Nd.encL_length, Nd.enc_eq] <;> rfl) ?_
   rfl
 apply sN
 refine cF (by simp [hF, Nd.encL, Nd.encL_length, Nd.enc_eq] <;> rfl) ?_
 apply rS hC
 · iterate 2 refine gO (by simp [hF, Nd.encL, Nd.encL_length, Nd.enc_eq] <;> rfl) ?_
   rfl
 refine cT (by simp [hF, Nd.encL, Nd.encL_length, Nd.enc_eq] <;> rfl) ?_
 apply sQ
 cases hB1 : (!(a.text == [116, 121, 112, 101]) : Bool)
 case false =>
  cases hB2 : ((r.length : Int) + 1 + 1 + 1 + 1 == 4 : Bool)
  case false =>
   apply rN hC
   · iterate 7 refine gO (by simp [hF, Nd.encL, Nd.encL_length, Nd.enc_eq, hB1, hB2] <;> rfl) ?_
     iterate 5 refine gW (by simp [wants, hF, Nd.encL, Nd.encL_length, Nd.enc_eq, hB1, hB2]) (by simp [hF, Nd.encL, Nd.encL_length, Nd.enc_eq, hB1, hB2] <;> rfl) ?_
     iterate 6 refine gF (by simp [wants, hF, Nd.encL, Nd.encL_length, Nd.enc_eq, hB1, hB2]) ?_
     refine gW (by simp [wants, hF, Nd.encL, Nd.encL_length, Nd.enc_eq, hB1, hB2]) (by simp [hF, Nd.encL, Nd.encL_length, Nd.enc_eq, hB1, hB2] <;> rfl) ?_
     iterate 2 refine gO (by simp [hF, Nd.encL, Nd.encL_length, Nd.enc_eq, hB1, hB2] <;> rfl) ?_
     rfl
   apply sN
   apply Tri.ret
   apply bR
   apply sR
   refine endsE (by simp [Tryz.f84] <;> rfl) (by rfl) ?_
   first
    | rfl
    | simp [*]
  case true =>
   apply rN hC
   · iterate 7 refine gO (by simp [hF, Nd.encL, Nd.encL_length, Nd.enc_eq, hB1, hB2] <;> rfl) ?_
     iterate 12 refine gW (by simp [wants, hF, Nd.encL, Nd.encL_length, Nd.enc_eq, hB1, hB2]) (by simp [hF, Nd.encL, Nd.encL_length, Nd.enc_eq, hB1, hB2] <;> rfl) ?_
     iterate 2 refine gO (by simp [hF, Nd.encL, Nd.encL_length, Nd.enc_eq, hB1, hB2] <;> rfl) ?_
     rfl
   apply sN
   apply Tri.ret
   apply bR
   apply sR
   refine endsE (by simp [Tryz.f84] <;> rfl) (by rfl) ?_
   first
    | rfl
    | simp [*]
 case true =>
  apply rN hC
  · iterate 7 refine gO (by simp [hF, Nd.encL, Nd.encL_length, Nd.enc_eq, hB1] <;> rfl) ?_
    iterate 12 refine gF (by simp [wants, hF, Nd.encL, Nd.encL_length, Nd.enc_eq, hB1]) ?_
    iterate 2 refine gO (by simp [hF, Nd.encL, Nd.encL_length, Nd.enc_eq, hB1] <;> rfl) ?_
    rfl
  apply sN
  apply Tri.ret
  apply bR
  apply sR
  refine endsE (by simp [Tryz.f84] <;> rfl) (by rfl) ?_
  first
   | rfl
   | simp [*]
theorem body_1084a {call : CallF} (hC : call.Sound Tryz.prog TT) (x : Nd) (hk1 : (x.kind == 1) = false) (hk31 : (x.kind == 31) = false) (hk3 : (x.kind == 3) = false) (hk : (x.kind == 27) = true) (a : Nd) (r : List Nd) (q : Bool) (hl : x.kids = a :: r) (hp0 : (0 : Int) < r.length + 1) (hq : ∀ H, call 103 [a.enc] H = .val (.b q) H)  : EBody Tryz.prog TT 84 [x.enc] (fun w => w = .val (.b q)) := by
 refine en Tryz.f84 rfl rfl (by simp [Tryz.f84]) 90 rfl fun t hw hg => ?_
 have h0 := hg 0 _ rfl
 clear hg
 try simp only [Nd.enc_eq] at *
 have hF := ai @h0 (ai @hk1 (ai @hk31 (ai @hk3 (ai @hk (ai @hl (ai @hp0 @hq))))))
 apply rS hC
 · iterate 2 refine gO (by simp [hF, Nd.encL, Nd.encL_length, Nd.enc_eq] <;> rfl) ?_
   rfl
 iterate 2 apply sQ
 refine Tri.freeze_put 1 30 (v := .ipt 3 [.agg [.i .i64 x.kind, .s x.text, .isl 3 (.agg [.i .i64 a.kind, .s a.text, .isl 3 (Nd.encL a.kids)] :: Nd.encL r)]] 0 0) (by simp [fz, fzL, nl, nlL, Nd.encL_nl, h0, hl, Nd.encL, Nd.enc_eq] <;> rfl) ?_
 apply rN hC
 · iterate 2 refine gO (by simp [hF, Nd.encL, Nd.encL_length, Nd.enc_eq] <;> rfl) ?_
   rfl
 apply sN
 apply bK
 apply sQ
 apply rS hC
 · iterate 2 refine gO (by simp [hF, Nd.encL, Nd.encL_length, Nd.enc_eq] <;> rfl) ?_
   rfl
 refine cF (by simp [hF, Nd.encL, Nd.encL_length, Nd.enc_eq] <;> rfl) ?_
 apply rN hC
 · iterate 2 refine gO (by simp [hF, Nd.encL, Nd.encL_length, Nd.enc_eq] <;> rfl) ?_
   rfl
 apply sN
 refine cF (by simp [hF, Nd.encL, Nd.encL_length, Nd.enc_eq] <;> rfl) ?_
 apply rS hC
 · iterate 2 refine gO (by simp [hF, Nd.encL, Nd.encL_length, Nd.enc_eq] <;> rfl) ?_
   rfl
 refine cF (by simp [hF, Nd.encL, Nd.encL_length, Nd.enc_eq] <;> rfl) ?_
 apply rS hC
 · iterate 2 refine gO (by simp [hF, Nd.encL, Nd.encL_length, Nd.enc_eq] <;> rfl) ?_
   rfl
 refine cT (by simp [hF, Nd.encL, Nd.encL_length, Nd.enc_eq] <;> rfl) ?_
 apply rS hC
 · iterate 6 refine gO (by simp [hF, Nd.encL, Nd.encL_length, Nd.enc_eq] <;> rfl) ?_
   rfl
 apply Tri.ret
 apply bR
 apply sR
 refine endsE (by simp [Tryz.f84] <;> rfl) (by rfl) ?_
 first
  | rfl
  | simp [*]
theorem body_1084s {call : CallF} (hC : call.Sound Tryz.prog TT) (x : Nd) (hlen : x.kids.length < 1100000) (hk1 : (x.kind == 1) = false) (hk31 : (x.kind == 31) = false) (hk3 : (x.kind == 3) = false) (hk27 : (x.kind == 27) = false) (hk : (x.kind == 25) = true)  : EBody Tryz.prog TT 84 [x.enc] (fun w => w = .val (.b (x.kids.all fun y => y.kind != 25))) := by
 refine en Tryz.f84 rfl rfl (by simp [Tryz.f84]) 90 rfl fun t hw hg => ?_
 have h0 := hg 0 _ rfl
 clear hg
 try simp only [Nd.enc_eq] at *
 have hF := ai @h0 (ai @hk1 (ai @hk31 (ai @hk3 (ai @hk27 @hk))))
 apply rS hC
 · iterate 2 refine gO (by simp [hF, Nd.encL_length] <;> rfl) ?_
   rfl
 iterate 2 apply sQ
 refine Tri.freeze_put 1 30 (v := .ipt 3 [.agg [.i .i64 x.kind, .s x.text, .isl 3 (Nd.encL x.kids)]] 0 0) (by simp [fz, fzL, nl, nlL, Nd.encL_nl, h0] <;> rfl) ?_
 apply rN hC
 · iterate 2 refine gO (by simp [hF, Nd.encL_length] <;> rfl) ?_
   rfl
 apply sN
 apply bK
 apply sQ
 apply rS hC
 · iterate 2 refine gO (by simp [hF, Nd.encL_length] <;> rfl) ?_
   rfl
 refine cF (by simp [hF, Nd.encL_length] <;> rfl) ?_
 apply rN hC
 · iterate 2 refine gO (by simp [hF, Nd.encL_length] <;> rfl) ?_
   rfl
 apply sN
 refine cF (by simp [hF, Nd.encL_length] <;> rfl) ?_
 apply rS hC
 · iterate 2 refine gO (by simp [hF, Nd.encL_length] <;> rfl) ?_
   rfl
 refine cF (by simp [hF, Nd.encL_length] <;> rfl) ?_
 apply rS hC
 · iterate 2 refine gO (by simp [hF, Nd.encL_length] <;> rfl) ?_
   rfl
 refine cF (by simp [hF, Nd.encL_length] <;> rfl) ?_
 apply rS hC
 · iterate 2 refine gO (by simp [hF, Nd.encL_length] <;> rfl) ?_
   rfl
 refine cT (by simp [hF, Nd.encL_length] <;> rfl) ?_
 apply rS hC
 · refine gO (by simp [hF, Nd.encL_length] <;> rfl) ?_
   rfl
 apply bK
 refine Tri.loop ?_
 refine loop1084s hC x.kind x.text x.kids [] _ _ (by simpa using hlen) (by simp [hw]) (by simp) (by simp) ?exit ?ret
 case exit =>
  intro t2 H2 hw hr h1
  have h4 : True := trivial
  refine inBlk_exit ?_
  apply bN
  apply sN
  apply rS hC
  · refine gO (by simp [hF, Nd.encL_length] <;> rfl) ?_
    rfl
  apply Tri.ret
  rw [hr]
  refine endsE (by simp [Tryz.f84, h4] <;> rfl) (by rfl) ?_
  rfl
 case ret =>
  intro t2 H2 hr h4
  iterate 2 apply bR
  apply sR
  rw [hr]
  refine endsE (by simp [Tryz.f84, h4] <;> rfl) (by rfl) ?_
  rfl
theorem body_1084x {call : CallF} (hC : call.Sound Tryz.prog TT) (x : Nd) (hk1 : (x.kind == 1) = false) (hk31 : (x.kind == 31) = false) (hk3 : (x.kind == 3) = false) (hk27 : (x.kind == 27) = false) (hk25 : (x.kind == 25) = false) (hk : (x.kind == 47) = true)  : EBody Tryz.prog TT 84 [x.enc] (fun w => w = .val (.b (decide ((2 : Int) < x.kids.length)))) := by
 refine en Tryz.f84 rfl rfl (by simp [Tryz.f84]) 90 rfl fun t hw hg => ?_
 have h0 := hg 0 _ rfl
 clear hg
 try simp only [Nd.enc_eq] at *
 have hF := ai @h0 (ai @hk1 (ai @hk31 (ai @hk3 (ai @hk27 (ai @hk25 @hk)))))
 apply rS hC
 · iterate 2 refine gO (by simp [hF, Nd.encL_length] <;> rfl) ?_
   rfl
 iterate 2 apply sQ
 refine Tri.freeze_put 1 30 (v := .ipt 3 [.agg [.i .i64 x.kind, .s x.text, .isl 3 (Nd.encL x.kids)]] 0 0) (by simp [fz, fzL, nl, nlL, Nd.encL_nl, h0] <;> rfl) ?_
 apply rN hC
 · iterate 2 refine gO (by simp [hF, Nd.encL_length] <;> rfl) ?_
   rfl
 apply sN
 apply bK
 apply sQ
 apply rS hC
 · iterate 2 refine gO (by simp [hF, Nd.encL_length] <;> rfl) ?_
   rfl
 refine cF (by simp [hF, Nd.encL_length] <;> rfl) ?_
 apply rN hC
 · iterate 2 refine gO (by simp [hF, Nd.encL_length] <;> rfl) ?_
   rfl
 apply sN
 refine cF (by simp [hF, Nd.encL_length] <;> rfl) ?_
 apply rS hC
 · iterate 2 refine gO (by simp [hF, Nd.encL_length] <;> rfl) ?_
   rfl
 refine cF (by simp [hF, Nd.encL_length] <;> rfl) ?_
 apply rS hC
 · iterate 2 refine gO (by simp [hF, Nd.encL_length] <;> rfl) ?_
   rfl
 refine cF (by simp [hF, Nd.encL_length] <;> rfl) ?_
 apply rS hC
 · iterate 2 refine gO (by simp [hF, Nd.encL_length] <;> rfl) ?_
   rfl
 refine cF (by simp [hF, Nd.encL_length] <;> rfl) ?_
 apply rS hC
 · iterate 2 refine gO (by simp [hF, Nd.encL_length] <;> rfl) ?_
   rfl
 refine cT (by simp [hF, Nd.encL_length] <;> rfl) ?_
 apply rS hC
 · iterate 5 refine gO (by simp [hF, Nd.encL_length] <;> rfl) ?_
   rfl
 apply Tri.ret
 apply bR
 apply sR
 refine endsE (by simp [Tryz.f84] <;> rfl) (by rfl) ?_
 first
  | rfl
  | simp [*]
theorem body_1084o {call : CallF} (hC : call.Sound Tryz.prog TT) (x : Nd) (hk1 : (x.kind == 1) = false) (hk31 : (x.kind == 31) = false) (hk3 : (x.kind == 3) = false) (hk27 : (x.kind == 27) = false) (hk25 : (x.kind == 25) = false) (hk : (x.kind == 47) = false)  : EBody Tryz.prog TT 84 [x.enc] (fun w => w = .val (.b true)) := by
 refine en Tryz.f84 rfl rfl (by simp [Tryz.f84]) 90 rfl fun t hw hg => ?_
 have h0 := hg 0 _ rfl
 clear hg
 try simp only [Nd.enc_eq] at *
 have hF := ai @h0 (ai @hk1 (ai @hk31 (ai @hk3 (ai @hk27 (ai @hk25 @hk)))))
 apply rS hC
 · iterate 2 refine gO (by simp [hF, Nd.encL_length] <;> rfl) ?_
   rfl
 iterate 2 apply sQ
 refine Tri.freeze_put 1 30 (v := .ipt 3 [.agg [.i .i64 x.kind, .s x.text, .isl 3 (Nd.encL x.kids)]] 0 0) (by simp [fz, fzL, nl, nlL, Nd.encL_nl, h0] <;> rfl) ?_
 apply rN hC
 · iterate 2 refine gO (by simp [hF, Nd.encL_length] <;> rfl) ?_
   rfl
 apply sN
 apply bK
 apply sQ
 apply rS hC
 · iterate 2 refine gO (by simp [hF, Nd.encL_length] <;> rfl) ?_
   rfl
 refine cF (by simp [hF, Nd.encL_length] <;> rfl) ?_
 apply rN hC
 · iterate 2 refine gO (by simp [hF, Nd.encL_length] <;> rfl) ?_
   rfl
 apply sN
 refine cF (by simp [hF, Nd.encL_length] <;> rfl) ?_
 apply rS hC
 · iterate 2 refine gO (by simp [hF, Nd.encL_length] <;> rfl) ?_
   rfl
 refine cF (by simp [hF, Nd.encL_length] <;> rfl) ?_
 apply rS hC
 · iterate 2 refine gO (by simp [hF, Nd.encL_length] <;> rfl) ?_
   rfl
 refine cF (by simp [hF, Nd.encL_length] <;> rfl) ?_
 apply rS hC
 · iterate 2 refine gO (by simp [hF, Nd.encL_length] <;> rfl) ?_
   rfl
 refine cF (by simp [hF, Nd.encL_length] <;> rfl) ?_
 apply rS hC
 · iterate 2 refine gO (by simp [hF, Nd.encL_length] <;> rfl) ?_
   rfl
 refine cF (by simp [hF, Nd.encL_length] <;> rfl) ?_
 apply Tri.skip
 apply bN
 apply sN
 apply rS hC
 · refine gO (by simp [hF, Nd.encL_length] <;> rfl) ?_
   rfl
 apply Tri.ret
 refine endsE (by simp [Tryz.f84] <;> rfl) (by rfl) ?_
 first
  | rfl
  | simp [*]
def kidR (fs : List UInt8) (m i : Nat) (y : Nd) : Bool := match fs[i]? with
  | some c => fitsR y c.toNat
  | none => moreR y m
def nodF (fs : List UInt8) (m : Nat) : Nat → List Nd → Bool
  | _, [] => true
  | i, y :: L => kidR fs m i y && nodF fs m (i + 1) L
theorem loop1057 {call : CallF} (hC : call.Sound Tryz.prog TT) (k : Int) (s fs : List UInt8) (m : Nat) (hm : m < 256) (hfs : fs.length < 100)
    (hfit : ∀ (y : Nd) (c : Nat), c < 256 → ∀ H, call 82 [y.enc, .i .u8 c] H = .val (.b (fitsR y c)) H) (hmor : ∀ (y : Nd) (c : Nat), c < 256 → ∀ H, call 83 [y.enc, .i .u8 c] H = .val (.b (moreR y c)) H) {Q : Out → Prop} : ∀ (L pre : List Nd) (t : Tm) (H : Heap), (pre ++ L).length < 1100000 →
    t.wid = 72 → t.get 1 = .ipt 3 [.agg [.i .i64 k, .s s, .isl 3 (Nd.encL (pre ++ L))]] 0 0 → t.get 3 = .s fs → t.get 4 = .i .u8 m → t.get 5 = .i .i64 pre.length →
    (∀ t' H', t'.wid = 72 → nodF fs m pre.length L = true → t'.get 1 = .ipt 3 [.agg [.i .i64 k, .s s, .isl 3 (Nd.encL (pre ++ L))]] 0 0 → Q (.exit 0 t' H')) → (∀ t' H', nodF fs m pre.length L = false → t'.get 2 = .b false → Q (.ret t' H')) →
    LTri Tryz.prog TT (sub [true, true, true, true, false, true, false, false] (bodyOf Tryz.f57)) t H Q := by
 intro L
 induction L with
 | nil =>
   intro pre t H hlen hw h1 h3 h4 h5 hE hR
   have hF := ai @h1 (ai @h3 (ai @h4 @h5))
   refine LTri.round' ?_
   apply sQ
   apply rS hC
   · iterate 5 refine gO (by simp [hF, Nd.encL_length, Nd.enc_eq] <;> rfl) ?_
     rfl
   refine cF (by simp [hF, Nd.encL_length, Nd.enc_eq] <;> rfl) ?_
   refine Tri.exit ?_
   refine inSeq_exit ?_
   refine inLoop_exit ?_
   exact hE _ _ (by simp [hw]) (by simp [nodF]) (by simp [h1])
 | cons x L ih =>
   intro pre t H hlen hw h1 h3 h4 h5 hE hR
   have hlt := fin_len pre.length L.length
   have hat := encL_at pre x L
   have hat2 := encL_at2 pre x L
   by_cases hi0 : pre.length < fs.length
   · obtain ⟨c, hc⟩ : ∃ c, fs[pre.length]? = some c := ⟨fs[pre.length]'hi0, List.getElem?_eq_getElem _⟩
     have hc2 : ∀ h, fs[pre.length]'h = c := fun h => Option.some.inj ((List.getElem?_eq_getElem h).symm.trans hc)
     have hi : (pre.length : Int) < fs.length := by omega
     have hi2 : ¬ ((fs.length : Int) ≤ pre.length) := by omega
     have hkr0 : kidR fs m pre.length x = fitsR x c.toNat := by simp only [kidR, hc]
     have hr0 := hfit x c.toNat c.toNat_lt
     cases hq : fitsR x c.toNat with
     | false =>
       have hkr : kidR fs m pre.length x = false := by rw [hkr0, hq]
       have hr : ∀ H, call 82 [x.enc, .i .u8 (c.toNat : Nat)] H = .val (.b false) H := fun H => by rw [hr0, hq]
       simp only [Nd.enc_eq] at hat hat2 hr
       have hF := ai @h1 (ai @h3 (ai @h4 (ai @h5 (ai @hlt (ai @hat (ai @hat2 (ai @hr (ai @hi (ai @hi2 (ai @hc @hc2))))))))))
       refine LTri.round' ?_
       apply sQ
       apply rS hC
       · iterate 5 refine gO (by simp [hF, Nd.encL_length, Nd.enc_eq] <;> rfl) ?_
         rfl
       refine cT (by simp [hF, Nd.encL_length, Nd.enc_eq] <;> rfl) ?_
       apply Tri.skip
       apply sN
       apply sQ
       apply bK
       apply sQ
       refine Tri.regN (t' := ?ta3) (H' := ?Ha3) TT_ok hC ?ea3 ?qa3
       case ea3 =>
        refine evReg_quiet (t' := ?ta3) (by kernel_rfl) ?_ ?ra903
        iterate 5 refine QR.val rfl (by simp [hF, Nd.encL_length, Nd.enc_eq] <;> rfl) (by rfl) (by simp [hw]) ?_
        iterate 10 refine QR.val (by simp [wants, hF, Nd.encL_length, Nd.enc_eq]) (by simp [hF, Nd.encL_length, Nd.enc_eq] <;> rfl) (by rfl) (by simp [hw]) ?_
        iterate 2 refine QR.val rfl (by simp [hF, Nd.encL_length, Nd.enc_eq] <;> rfl) (by rfl) (by simp [hw]) ?_
        iterate 14 refine QR.off (by simp [wants, hF, Nd.encL_length, Nd.enc_eq]) (by simp [hw]) ?_
        refine QR.val rfl (by simp [hF, Nd.encL_length, Nd.enc_eq] <;> rfl) (by rfl) (by simp [hw]) ?_
        exact QR.nil
        case ra903 => exact rfl
       apply sN
       refine cT (by simp [hF, Nd.encL_length, Nd.enc_eq] <;> rfl) ?_
       apply rS hC
       · refine gO (by simp [hF, Nd.encL_length, Nd.enc_eq] <;> rfl) ?_
         rfl
       apply Tri.ret
       apply bR
       apply sR
       refine inLoop_ret ?_
       exact hR _ _ (by simp [nodF, hkr]) (by simp)
     | true =>
       have hkr : kidR fs m pre.length x = true := by rw [hkr0, hq]
       have hr : ∀ H, call 82 [x.enc, .i .u8 (c.toNat : Nat)] H = .val (.b true) H := fun H => by rw [hr0, hq]
       simp only [Nd.enc_eq] at hat hat2 hr
       have hF := ai @h1 (ai @h3 (ai @h4 (ai @h5 (ai @hlt (ai @hat (ai @hat2 (ai @hr (ai @hi (ai @hi2 (ai @hc @hc2))))))))))
       refine LTri.round' ?_
       apply sQ
       apply rS hC
       · iterate 5 refine gO (by simp [hF, Nd.encL_length, Nd.enc_eq] <;> rfl) ?_
         rfl
       refine cT (by simp [hF, Nd.encL_length, Nd.enc_eq] <;> rfl) ?_
       apply Tri.skip
       apply sN
       apply sQ
       apply bK
       apply sQ
       refine Tri.regN (t' := ?tb3) (H' := ?Hb3) TT_ok hC ?eb3 ?qb3
       case eb3 =>
        refine evReg_quiet (t' := ?tb3) (by kernel_rfl) ?_ ?rb903
        iterate 5 refine QR.val rfl (by simp [hF, Nd.encL_length, Nd.enc_eq] <;> rfl) (by rfl) (by simp [hw]) ?_
        iterate 10 refine QR.val (by simp [wants, hF, Nd.encL_length, Nd.enc_eq]) (by simp [hF, Nd.encL_length, Nd.enc_eq] <;> rfl) (by rfl) (by simp [hw]) ?_
        iterate 2 refine QR.val rfl (by simp [hF, Nd.encL_length, Nd.enc_eq] <;> rfl) (by rfl) (by simp [hw]) ?_
        iterate 5 refine QR.val (by simp [wants, hF, Nd.encL_length, Nd.enc_eq]) (by simp [hF, Nd.encL_length, Nd.enc_eq] <;> rfl) (by rfl) (by simp [hw]) ?_
        iterate 8 refine QR.off (by simp [wants, hF, Nd.encL_length, Nd.enc_eq]) (by simp [hw]) ?_
        refine QR.val (by simp [wants, hF, Nd.encL_length, Nd.enc_eq]) (by simp [hF, Nd.encL_length, Nd.enc_eq] <;> rfl) (by rfl) (by simp [hw]) ?_
        refine QR.val rfl (by simp [hF, Nd.encL_length, Nd.enc_eq] <;> rfl) (by rfl) (by simp [hw]) ?_
        exact QR.nil
        case rb903 => exact rfl
       apply sN
       refine cF (by simp [hF, Nd.encL_length, Nd.enc_eq] <;> rfl) ?_
       apply Tri.skip
       apply bN
       apply sN
       apply rN hC
       · iterate 3 refine gO (by simp [hF, Nd.encL_length, Nd.enc_eq] <;> rfl) ?_
         rfl
       refine inLoop_norm ?_
       refine ih (pre ++ [x]) _ _ (by simpa using hlen) (by simp [hw]) (by simp [h1]) (by simp [h3]) (by simp [h4]) (by simp; exact wrap_i64 (by omega) (by simp at hlen; omega)) (fun t' H' k1 k2 k3 => hE t' H' k1 (by rw [nodF, hkr, Bool.true_and]; simpa using k2) (by simpa using k3)) (fun t' H' k1 k2 => hR t' H' (by rw [nodF, hkr, Bool.true_and]; simpa using k1) k2)
   · have hi : ¬ (pre.length : Int) < fs.length := by omega
     have hi2 : ((fs.length : Int) ≤ pre.length) := by omega
     have hkr0 : kidR fs m pre.length x = moreR x m := by simp only [kidR, List.getElem?_eq_none (by omega : fs.length ≤ pre.length)]
     have hr0 := hmor x m hm
     cases hq : moreR x m with
     | false =>
       have hkr : kidR fs m pre.length x = false := by rw [hkr0, hq]
       have hr : ∀ H, call 83 [x.enc, .i .u8 m] H = .val (.b false) H := fun H => by rw [hr0, hq]
       simp only [Nd.enc_eq] at hat hat2 hr
       have hF := ai @h1 (ai @h3 (ai @h4 (ai @h5 (ai @hlt (ai @hat (ai @hat2 (ai @hr (ai @hi @hi2))))))))
       refine LTri.round' ?_
       apply sQ
       apply rS hC
       · iterate 5 refine gO (by simp [hF, Nd.encL_length, Nd.enc_eq] <;> rfl) ?_
         rfl
       refine cT (by simp [hF, Nd.encL_length, Nd.enc_eq] <;> rfl) ?_
       apply Tri.skip
       apply sN
       apply sQ
       apply bK
       apply sQ
       refine Tri.regN (t' := ?tc3) (H' := ?Hc3) TT_ok hC ?ec3 ?qc3
       case ec3 =>
        refine evReg_quiet (t' := ?tc3) (by kernel_rfl) ?_ ?rc903
        iterate 5 refine QR.val rfl (by simp [hF, Nd.encL_length, Nd.enc_eq] <;> rfl) (by rfl) (by simp [hw]) ?_
        iterate 10 refine QR.off (by simp [wants, hF, Nd.encL_length, Nd.enc_eq]) (by simp [hw]) ?_
        iterate 2 refine QR.val rfl (by simp [hF, Nd.encL_length, Nd.enc_eq] <;> rfl) (by rfl) (by simp [hw]) ?_
        iterate 14 refine QR.val (by simp [wants, hF, Nd.encL_length, Nd.enc_eq]) (by simp [hF, Nd.encL_length, Nd.enc_eq] <;> rfl) (by rfl) (by simp [hw]) ?_
        refine QR.val rfl (by simp [hF, Nd.encL_length, Nd.enc_eq] <;> rfl) (by rfl) (by simp [hw]) ?_
        exact QR.nil
        case rc903 => exact rfl
       apply sN
       refine cT (by simp [hF, Nd.encL_length, Nd.enc_eq] <;> rfl) ?_
       apply rS hC
       · refine gO (by simp [hF, Nd.encL_length, Nd.enc_eq] <;> rfl) ?_
         rfl
       apply Tri.ret
       apply bR
       apply sR
       refine inLoop_ret ?_
       exact hR _ _ (by simp [nodF, hkr]) (by simp)
     | true =>
       have hkr : kidR fs m pre.length x = true := by rw [hkr0, hq]
       have hr : ∀ H, call 83 [x.enc, .i .u8 m] H = .val (.b true) H := fun H => by rw [hr0, hq]
       simp only [Nd.enc_eq] at hat hat2 hr
       have hF := ai @h1 (ai @h3 (ai @h4 (ai @h5 (ai @hlt (ai @hat (ai @hat2 (ai @hr (ai @hi @hi2))))))))
       refine LTri.round' ?_
       apply sQ
       apply rS hC
       · iterate 5 refine gO (by simp [hF, Nd.encL_length, Nd.enc_eq] <;> rfl) ?_
         rfl
       refine Tri.condG (o := ?od2) (b := ?bd2) ?gd2 ?rd2 ?yd2 ?nd2
       case gd2 => simp [hF, Nd.encL_length, Nd.enc_eq] <;> rfl
       case rd2 => rfl
       case yd2 =>
        intro hy2
        apply Tri.skip
        apply sN
        apply sQ
        apply bK
        apply sQ
        refine Tri.regN (t' := ?td3) (H' := ?Hd3) TT_ok hC ?ed3 ?qd3
        case ed3 =>
         refine evReg_quiet (t' := ?td3) (by kernel_rfl) ?_ ?rd903
         iterate 5 refine QR.val rfl (by simp [hF, Nd.encL_length, Nd.enc_eq] <;> rfl) (by rfl) (by simp [hw]) ?_
         iterate 10 refine QR.off (by simp [wants, hF, Nd.encL_length, Nd.enc_eq]) (by simp [hw]) ?_
         iterate 2 refine QR.val rfl (by simp [hF, Nd.encL_length, Nd.enc_eq] <;> rfl) (by rfl) (by simp [hw]) ?_
         iterate 14 refine QR.val (by simp [wants, hF, Nd.encL_length, Nd.enc_eq]) (by simp [hF, Nd.encL_length, Nd.enc_eq] <;> rfl) (by rfl) (by simp [hw]) ?_
         refine QR.val rfl (by simp [hF, Nd.encL_length, Nd.enc_eq] <;> rfl) (by rfl) (by simp [hw]) ?_
         exact QR.nil
         case rd903 => exact rfl
        apply sN
        refine cF (by simp [hF, Nd.encL_length, Nd.enc_eq] <;> rfl) ?_
        apply Tri.skip
        apply bN
        apply sN
        apply rN hC
        · iterate 3 refine gO (by simp [hF, Nd.encL_length, Nd.enc_eq] <;> rfl) ?_
          rfl
        refine inLoop_norm ?_
        refine ih (pre ++ [x]) _ _ (by simpa using hlen) (by simp [hw]) (by simp [h1]) (by simp [h3]) (by simp [h4]) (by simp; exact wrap_i64 (by omega) (by simp at hlen; omega)) (fun t' H' k1 k2 k3 => hE t' H' k1 (by rw [nodF, hkr, Bool.true_and]; simpa using k2) (by simpa using k3)) (fun t' H' k1 k2 => hR t' H' (by rw [nodF, hkr, Bool.true_and]; simpa using k1) k2)
       case nd2 =>
        intro hn2
        exfalso
        simp at hn2

theorem body_1057lo {call : CallF} (hC : call.Sound Tryz.prog TT) (x : Nd) (h1k : x.kind < 1)  : EBody Tryz.prog TT 57 [x.enc] (fun w => w = .val (.b false)) := by
 refine en Tryz.f57 rfl rfl (by simp [Tryz.f57]) 72 rfl fun t hw hg => ?_
 have h0 := hg 0 _ rfl
 clear hg
 try simp only [Nd.enc_eq] at *
 apply rS hC
 · iterate 2 refine oA ?_
   rfl
 iterate 2 apply sQ
 refine Tri.freeze_put 1 30 (v := .ipt 3 [.agg [.i .i64 x.kind, .s x.text, .isl 3 (Nd.encL x.kids)]] 0 0) (by simp [fz, fzL, nl, nlL, Nd.encL_nl, h0] <;> rfl) ?_
 apply rN hC
 · iterate 4 refine oA ?_
   iterate 3 refine oC ?_
   iterate 2 refine oA ?_
   iterate 3 refine oC ?_
   refine oA ?_
   rfl
 apply sN
 refine cT (by simp [h0, h1k] <;> rfl) ?_
 apply rS hC
 · refine oA ?_
   rfl
 apply Tri.ret
 apply sR
 refine endsE (by simp [Tryz.f57] <;> rfl) (by rfl) ?_
 first
  | rfl
  | simp [*]
theorem body_1057hi {call : CallF} (hC : call.Sound Tryz.prog TT) (x : Nd) (h1k : ¬ x.kind < 1) (h2k : (56 : Int) < x.kind)  : EBody Tryz.prog TT 57 [x.enc] (fun w => w = .val (.b false)) := by
 refine en Tryz.f57 rfl rfl (by simp [Tryz.f57]) 72 rfl fun t hw hg => ?_
 have h0 := hg 0 _ rfl
 clear hg
 try simp only [Nd.enc_eq] at *
 have hF := ai @h0 (ai @h1k @h2k)
 apply rS hC
 · iterate 2 refine oA ?_
   rfl
 iterate 2 apply sQ
 refine Tri.freeze_put 1 30 (v := .ipt 3 [.agg [.i .i64 x.kind, .s x.text, .isl 3 (Nd.encL x.kids)]] 0 0) (by simp [fz, fzL, nl, nlL, Nd.encL_nl, h0] <;> rfl) ?_
 apply rN hC
 · iterate 4 refine oA ?_
   iterate 3 refine oB ?_
   iterate 2 refine oA ?_
   iterate 3 refine oC ?_
   refine oA ?_
   rfl
 apply sN
 refine cT (by simp [hF] <;> rfl) ?_
 apply rS hC
 · refine oA ?_
   rfl
 apply Tri.ret
 apply sR
 refine endsE (by simp [Tryz.f57] <;> rfl) (by rfl) ?_
 first
  | rfl
  | simp [*]
theorem body_1057t {call : CallF} (hC : call.Sound Tryz.prog TT) (x : Nd) (h1k : ¬ x.kind < 1) (h2k : ¬ (56 : Int) < x.kind) (ht : ∀ H, call 80 [x.enc] H = .val (.b false) H)   : EBody Tryz.prog TT 57 [x.enc] (fun w => w = .val (.b false)) := by
 refine en Tryz.f57 rfl rfl (by simp [Tryz.f57]) 72 rfl fun t hw hg => ?_
 have h0 := hg 0 _ rfl
 clear hg
 try simp only [Nd.enc_eq] at *
 have hF := ai @h0 (ai @h1k (ai @h2k @ht))
 apply rS hC
 · iterate 2 refine oA ?_
   rfl
 iterate 2 apply sQ
 refine Tri.freeze_put 1 30 (v := .ipt 3 [.agg [.i .i64 x.kind, .s x.text, .isl 3 (Nd.encL x.kids)]] 0 0) (by simp [fz, fzL, nl, nlL, Nd.encL_nl, h0] <;> rfl) ?_
 apply rN hC
 · iterate 4 refine oA ?_
   iterate 3 refine oB ?_
   iterate 2 refine oA ?_
   iterate 3 refine oB ?_
   refine oA ?_
   rfl
 apply sN
 refine cT (by simp [hF] <;> rfl) ?_
 apply rS hC
 · refine oA ?_
   rfl
 apply Tri.ret
 apply sR
 refine endsE (by simp [Tryz.f57] <;> rfl) (by rfl) ?_
 first
  | rfl
  | simp [*]
theorem body_1057s {call : CallF} (hC : call.Sound Tryz.prog TT) (x : Nd) (h1k : ¬ x.kind < 1) (h2k : ¬ (56 : Int) < x.kind) (ht : ∀ H, call 80 [x.enc] H = .val (.b true) H) (fs : List UInt8) (m : Nat) (hsh : ∀ H, call 81 [.i .i64 x.kind] H = .val (.tup [.s fs, .i .u8 m]) H) (hl : (x.kids.length : Int) < fs.length)  : EBody Tryz.prog TT 57 [x.enc] (fun w => w = .val (.b false)) := by
 refine en Tryz.f57 rfl rfl (by simp [Tryz.f57]) 72 rfl fun t hw hg => ?_
 have h0 := hg 0 _ rfl
 clear hg
 try simp only [Nd.enc_eq] at *
 have hF := ai @h0 (ai @h1k (ai @h2k (ai @ht (ai @hsh @hl))))
 apply rS hC
 · iterate 2 refine gO (by simp [hF, Nd.encL_length] <;> rfl) ?_
   rfl
 iterate 2 apply sQ
 refine Tri.freeze_put 1 30 (v := .ipt 3 [.agg [.i .i64 x.kind, .s x.text, .isl 3 (Nd.encL x.kids)]] 0 0) (by simp [fz, fzL, nl, nlL, Nd.encL_nl, h0] <;> rfl) ?_
 apply rN hC
 · iterate 4 refine gO (by simp [hF, Nd.encL_length] <;> rfl) ?_
   iterate 3 refine gW (by simp [wants, hF, Nd.encL_length]) (by simp [hF, Nd.encL_length] <;> rfl) ?_
   iterate 2 refine gO (by simp [hF, Nd.encL_length] <;> rfl) ?_
   iterate 3 refine gW (by simp [wants, hF, Nd.encL_length]) (by simp [hF, Nd.encL_length] <;> rfl) ?_
   refine gO (by simp [hF, Nd.encL_length] <;> rfl) ?_
   rfl
 apply sN
 refine cF (by simp [hF, Nd.encL_length] <;> rfl) ?_
 apply Tri.skip
 apply sN
 apply rS hC
 · iterate 8 refine gO (by simp [hF, Nd.encL_length] <;> rfl) ?_
   rfl
 apply sQ
 apply rS hC
 · iterate 6 refine gO (by simp [hF, Nd.encL_length] <;> rfl) ?_
   rfl
 refine cT (by simp [hF, Nd.encL_length] <;> rfl) ?_
 apply rS hC
 · refine gO (by simp [hF, Nd.encL_length] <;> rfl) ?_
   rfl
 apply Tri.ret
 apply sR
 refine endsE (by simp [Tryz.f57] <;> rfl) (by rfl) ?_
 first
  | rfl
  | simp [*]
theorem body_1057l {call : CallF} (hC : call.Sound Tryz.prog TT) (x : Nd) (h1k : ¬ x.kind < 1) (h2k : ¬ (56 : Int) < x.kind) (ht : ∀ H, call 80 [x.enc] H = .val (.b true) H) (fs : List UInt8) (m : Nat) (hsh : ∀ H, call 81 [.i .i64 x.kind] H = .val (.tup [.s fs, .i .u8 m]) H) (hl : ¬ (x.kids.length : Int) < fs.length) (hm : m < 256) (hfs : fs.length < 100) (hlen : x.kids.length < 1100000) (hfit : ∀ (y : Nd) (c : Nat), c < 256 → ∀ H, call 82 [y.enc, .i .u8 c] H = .val (.b (fitsR y c)) H) (hmor : ∀ (y : Nd) (c : Nat), c < 256 → ∀ H, call 83 [y.enc, .i .u8 c] H = .val (.b (moreR y c)) H) (q : Bool) (hq : ∀ H, call 84 [x.enc] H = .val (.b q) H)  : EBody Tryz.prog TT 57 [x.enc] (fun w => w = .val (.b (nodF fs m 0 x.kids && q))) := by
 refine en Tryz.f57 rfl rfl (by simp [Tryz.f57]) 72 rfl fun t hw hg => ?_
 have h0 := hg 0 _ rfl
 clear hg
 try simp only [Nd.enc_eq] at *
 have hF := ai @h0 (ai @h1k (ai @h2k (ai @ht (ai @hsh (ai @hl @hq)))))
 apply rS hC
 · iterate 2 refine gO (by simp [hF, Nd.encL_length] <;> rfl) ?_
   rfl
 iterate 2 apply sQ
 refine Tri.freeze_put 1 30 (v := .ipt 3 [.agg [.i .i64 x.kind, .s x.text, .isl 3 (Nd.encL x.kids)]] 0 0) (by simp [fz, fzL, nl, nlL, Nd.encL_nl, h0] <;> rfl) ?_
 apply rN hC
 · iterate 4 refine gO (by simp [hF, Nd.encL_length] <;> rfl) ?_
   iterate 3 refine gW (by simp [wants, hF, Nd.encL_length]) (by simp [hF, Nd.encL_length] <;> rfl) ?_
   iterate 2 refine gO (by simp [hF, Nd.encL_length] <;> rfl) ?_
   iterate 3 refine gW (by simp [wants, hF, Nd.encL_length]) (by simp [hF, Nd.encL_length] <;> rfl) ?_
   refine gO (by simp [hF, Nd.encL_length] <;> rfl) ?_
   rfl
 apply sN
 refine cF (by simp [hF, Nd.encL_length] <;> rfl) ?_
 apply Tri.skip
 apply sN
 apply rS hC
 · iterate 8 refine gO (by simp [hF, Nd.encL_length] <;> rfl) ?_
   rfl
 apply sQ
 apply rS hC
 · iterate 6 refine gO (by simp [hF, Nd.encL_length] <;> rfl) ?_
   rfl
 refine cF (by simp [hF, Nd.encL_length] <;> rfl) ?_
 apply Tri.skip
 apply sN
 apply sQ
 apply rS hC
 · refine gO (by simp [hF, Nd.encL_length] <;> rfl) ?_
   rfl
 apply bK
 refine Tri.loop ?_
 refine loop1057 hC x.kind x.text fs m hm hfs (fun y c hc H => by rw [Nd.enc_eq y]; exact hfit y c hc H) (fun y c hc H => by rw [Nd.enc_eq y]; exact hmor y c hc H) x.kids [] _ _ (by simpa using hlen) (by simp [hw]) (by simp) (by simp) (by simp) (by simp) ?exit ?ret
 case exit =>
  intro t2 H2 hw hr h1
  rw [List.length_nil] at hr
  have h4 : True := trivial
  refine inBlk_exit ?_
  apply sN
  apply rS hC
  · iterate 3 refine gO (by simp [hF, Nd.encL_length, h1] <;> rfl) ?_
    rfl
  apply Tri.ret
  rw [hr]
  refine endsE (by simp [Tryz.f57, h4] <;> rfl) (by rfl) ?_
  rfl
 case ret =>
  intro t2 H2 hr h4
  rw [List.length_nil] at hr
  apply bR
  apply sR
  rw [hr]
  refine endsE (by simp [Tryz.f57, h4] <;> rfl) (by rfl) ?_
  rfl
def idK (k : Int) : Bool := k == 3 || k == 7 || k == 8 || k == 9 || k == 11 || k == 23 || k == 26 || k == 28 || k == 29 || k == 30 || k == 32 || k == 45 || k == 46 || k == 56
theorem sw1080 {call : CallF} (hC : call.Sound Tryz.prog TT) {k : Int} {t : Tm} {H : Heap} {Q : Out → Prop} (hw : t.wid = 135) (h9 : t.get 9 = .i .i64 k)
    (hQ : ∀ (t' : Tm), t'.wid = 135 → t'.get 15 = .b (idK k) → t'.get 1 = t.get 1 → t'.get 9 = t.get 9 → Q (.norm t' H)) : Tri Tryz.prog TT (sub [true, false, true, false, true, true, false] (bodyOf Tryz.f80)) t H Q := by
 apply rS hC
 · iterate 2 refine oA ?_
   rfl
 refine Tri.condG (o := ?o2) (b := ?b2) ?g2 ?r2 ?y2 ?n2
 case g2 => simp [h9] <;> rfl
 case r2 => rfl
 case y2 =>
  intro hy2
  apply Tri.skip
  exact hQ _ (by simp [hw]) (by simp [idK, *]) (by simp) (by simp)
 case n2 =>
  intro hn2
  apply rS hC
  · iterate 2 refine oA ?_
    rfl
  refine Tri.condG (o := ?o4) (b := ?b4) ?g4 ?r4 ?y4 ?n4
  case g4 => simp [h9, hn2] <;> rfl
  case r4 => rfl
  case y4 =>
   intro hy4
   apply Tri.skip
   exact hQ _ (by simp [hw]) (by simp [idK, *]) (by simp) (by simp)
  case n4 =>
   intro hn4
   apply rS hC
   · iterate 2 refine oA ?_
     rfl
   refine Tri.condG (o := ?o6) (b := ?b6) ?g6 ?r6 ?y6 ?n6
   case g6 => simp [h9, hn2, hn4] <;> rfl
   case r6 => rfl
   case y6 =>
    intro hy6
    apply Tri.skip
    exact hQ _ (by simp [hw]) (by simp [idK, *]) (by simp) (by simp)
   case n6 =>
    intro hn6
    apply rS hC
    · iterate 2 refine oA ?_
      rfl
    refine Tri.condG (o := ?o8) (b := ?b8) ?g8 ?r8 ?y8 ?n8
    case g8 => simp [h9, hn2, hn4, hn6] <;> rfl
    case r8 => rfl
    case y8 =>
     intro hy8
     apply Tri.skip
     exact hQ _ (by simp [hw]) (by simp [idK, *]) (by simp) (by simp)
    case n8 =>
     intro hn8
     apply rS hC
     · iterate 2 refine oA ?_
       rfl
     refine Tri.condG (o := ?o10) (b := ?b10) ?g10 ?r10 ?y10 ?n10
     case g10 => simp [h9, hn2, hn4, hn6, hn8] <;> rfl
     case r10 => rfl
     case y10 =>
      intro hy10
      apply Tri.skip
      exact hQ _ (by simp [hw]) (by simp [idK, *]) (by simp) (by simp)
     case n10 =>
      intro hn10
      apply rS hC
      · iterate 2 refine oA ?_
        rfl
      refine Tri.condG (o := ?o12) (b := ?b12) ?g12 ?r12 ?y12 ?n12
      case g12 => simp [h9, hn2, hn4, hn6, hn8, hn10] <;> rfl
      case r12 => rfl
      case y12 =>
       intro hy12
       apply Tri.skip
       exact hQ _ (by simp [hw]) (by simp [idK, *]) (by simp) (by simp)
      case n12 =>
       intro hn12
       apply rS hC
       · iterate 2 refine oA ?_
         rfl
       refine Tri.condG (o := ?o14) (b := ?b14) ?g14 ?r14 ?y14 ?n14
       case g14 => simp [h9, hn2, hn4, hn6, hn8, hn10, hn12] <;> rfl
       case r14 => rfl
       case y14 =>
        intro hy14
        apply Tri.skip
        exact hQ _ (by simp [hw]) (by simp [idK, *]) (by simp) (by simp)
       case n14 =>
        intro hn14
        apply rS hC
        · iterate 2 refine oA ?_
          rfl
        refine Tri.condG (o := ?o16) (b := ?b16) ?g16 ?r16 ?y16 ?n16
        case g16 => simp [h9, hn2, hn4, hn6, hn8, hn10, hn12, hn14] <;> rfl
        case r16 => rfl
        case y16 =>
         intro hy16
         apply Tri.skip
         exact hQ _ (by simp [hw]) (by simp [idK, *]) (by simp) (by simp)
        case n16 =>
         intro hn16
         apply rS hC
         · iterate 2 refine oA ?_
           rfl
         refine Tri.condG (o := ?o18) (b := ?b18) ?g18 ?r18 ?y18 ?n18
         case g18 => simp [h9, hn2, hn4, hn6, hn8, hn10, hn12, hn14, hn16] <;> rfl
         case r18 => rfl
         case y18 =>
          intro hy18
          apply Tri.skip
          exact hQ _ (by simp [hw]) (by simp [idK, *]) (by simp) (by simp)
         case n18 =>
          intro hn18
          apply rS hC
          · iterate 2 refine oA ?_
            rfl
          refine Tri.condG (o := ?o20) (b := ?b20) ?g20 ?r20 ?y20 ?n20
          case g20 => simp [h9, hn2, hn4, hn6, hn8, hn10, hn12, hn14, hn16, hn18] <;> rfl
          case r20 => rfl
          case y20 =>
           intro hy20
           apply Tri.skip
           exact hQ _ (by simp [hw]) (by simp [idK, *]) (by simp) (by simp)
          case n20 =>
           intro hn20
           apply rS hC
           · iterate 2 refine oA ?_
             rfl
           refine Tri.condG (o := ?o22) (b := ?b22) ?g22 ?r22 ?y22 ?n22
           case g22 => simp [h9, hn2, hn4, hn6, hn8, hn10, hn12, hn14, hn16, hn18, hn20] <;> rfl
           case r22 => rfl
           case y22 =>
            intro hy22
            apply Tri.skip
            exact hQ _ (by simp [hw]) (by simp [idK, *]) (by simp) (by simp)
           case n22 =>
            intro hn22
            apply rS hC
            · iterate 2 refine oA ?_
              rfl
            refine Tri.condG (o := ?o24) (b := ?b24) ?g24 ?r24 ?y24 ?n24
            case g24 => simp [h9, hn2, hn4, hn6, hn8, hn10, hn12, hn14, hn16, hn18, hn20, hn22] <;> rfl
            case r24 => rfl
            case y24 =>
             intro hy24
             apply Tri.skip
             exact hQ _ (by simp [hw]) (by simp [idK, *]) (by simp) (by simp)
            case n24 =>
             intro hn24
             apply rS hC
             · iterate 2 refine oA ?_
               rfl
             refine Tri.condG (o := ?o26) (b := ?b26) ?g26 ?r26 ?y26 ?n26
             case g26 => simp [h9, hn2, hn4, hn6, hn8, hn10, hn12, hn14, hn16, hn18, hn20, hn22, hn24] <;> rfl
             case r26 => rfl
             case y26 =>
              intro hy26
              apply Tri.skip
              exact hQ _ (by simp [hw]) (by simp [idK, *]) (by simp) (by simp)
             case n26 =>
              intro hn26
              apply rN hC
              · iterate 2 refine oA ?_
                rfl
              exact hQ _ (by simp [hw]) (by simp [idK, *]) (by simp) (by simp)
def dotG (s : List UInt8) : Nat → Nat → Bool
  | 0, _ => false
  | n + 1, i => if s.length ≤ i then isIdR s else if atR s i = 46 then isIdR (s.take i) && isIdR (s.drop (i + 1)) else dotG s n (i + 1)
theorem loop1080 {call : CallF} (hC : call.Sound Tryz.prog TT) (k : Int) (s : List UInt8) (l : List V) (hs : s.length < 100000000) (hid : ∀ x : List UInt8, ∀ H, call 98 [.s x] H = .val (.b (isIdR x)) H) {Q : Out → Prop} : ∀ (n i : Nat) (t : Tm) (H : Heap), s.length + 1 - i ≤ n →
    t.wid = 135 → t.get 1 = .ipt 3 [.agg [.i .i64 k, .s s, .isl 3 l]] 0 0 → t.get 3 = .i .i64 i →
    (∀ t' H', t'.wid = 135 → dotG s (n + 1) i = isIdR s → t'.get 1 = .ipt 3 [.agg [.i .i64 k, .s s, .isl 3 l]] 0 0 → Q (.exit 1 t' H')) → (∀ t' H', t'.get 2 = .b (dotG s (n + 1) i) → Q (.ret t' H')) →
    LTri Tryz.prog TT (sub [true, false, true, false, true, true, true, true, true, false, false, true, false, false] (bodyOf Tryz.f80)) t H Q := by
 intro n
 induction n with
 | zero =>
   intro i t H hn hw h1 h3 hE hR
   have hout : ¬ (i : Int) < s.length := by omega
   have hout2 : s.length ≤ i := by omega
   have hF := ai @h1 (ai @h3 @hout)
   refine LTri.round' ?_
   apply sQ
   apply rS hC
   · iterate 5 refine oA ?_
     rfl
   refine cF (by simp [hF] <;> rfl) ?_
   refine Tri.exit ?_
   refine inSeq_exit ?_
   refine inLoop_exit ?_
   exact hE _ _ (by simp [hw]) (by simp [dotG, hout2]) (by simp [h1])
 | succ n ih =>
   intro i t H hn hw h1 h3 hE hR
   by_cases hlt : i < s.length
   · have hin : (i : Int) < s.length := by omega
     have hin2 : i < s.length := hlt
     have hsl1 : i ≤ s.length := by omega
     have hsl2 : i + 1 ≤ s.length := by omega
     have hle : (i : Int) + 1 ≤ s.length := by omega
     have hw1 : IntKind.i64.wrap ((i : Int) + 1) = (i : Int) + 1 := wrap_i64 (by omega) (by omega)
     obtain ⟨b, hat⟩ : ∃ b, s[i]? = some b := ⟨s[i]'(by omega), List.getElem?_eq_getElem _⟩
     have hat2 : ∀ h, s[i]'h = b := fun h => Option.some.inj ((List.getElem?_eq_getElem h).symm.trans hat)
     have hatR : atR s i = b.toNat := atR_get hat
     by_cases hc0 : atR s i = 46
     · have hc : ((b.toNat : Int) == 46) = true := by rw [← hatR, hc0]; rfl
       have hpg : dotG s (n + 1 + 1) i = (isIdR (s.take i) && isIdR (s.drop (i + 1))) := by rw [dotG, if_neg (by omega), if_pos hc0]
       cases hq0 : isIdR (s.take i) with
       | false =>
         have hq : ∀ H, call 98 [.s (s.take i)] H = .val (.b false) H := fun H => by rw [hid, hq0]
         have hF := ai @h1 (ai @h3 (ai @hin (ai @hin2 (ai @hat (ai @hat2 (ai @hc (ai @hsl1 (ai @hsl2 (ai @hle (ai @hw1 @hq))))))))))
         refine LTri.round' ?_
         apply sQ
         apply rS hC
         · iterate 5 refine oA ?_
           rfl
         refine cT (by simp [hF] <;> rfl) ?_
         apply Tri.skip
         apply sN
         apply sQ
         apply bK
         apply rS hC
         · iterate 5 refine oA ?_
           rfl
         refine cT (by simp [hF] <;> rfl) ?_
         apply rS hC
         · iterate 6 refine oA ?_
           iterate 6 refine oC ?_
           iterate 2 refine oA ?_
           rfl
         apply Tri.ret
         apply bR
         apply sR
         refine inLoop_ret ?_
         exact hR _ _ (by rw [hpg, hq0]; simp)
       | true =>
         have hq : ∀ H, call 98 [.s (s.take i)] H = .val (.b true) H := fun H => by rw [hid, hq0]
         have hq2 : ∀ H, call 98 [.s (s.drop (i + 1))] H = .val (.b (isIdR (s.drop (i + 1)))) H := fun H => hid _ H
         have hF := ai @h1 (ai @h3 (ai @hin (ai @hin2 (ai @hat (ai @hat2 (ai @hc (ai @hsl1 (ai @hsl2 (ai @hle (ai @hw1 (ai @hq @hq2)))))))))))
         refine LTri.round' ?_
         apply sQ
         apply rS hC
         · iterate 5 refine oA ?_
           rfl
         refine cT (by simp [hF] <;> rfl) ?_
         apply Tri.skip
         apply sN
         apply sQ
         apply bK
         apply rS hC
         · iterate 5 refine oA ?_
           rfl
         refine cT (by simp [hF] <;> rfl) ?_
         apply rS hC
         · iterate 6 refine oA ?_
           iterate 6 refine oB ?_
           iterate 2 refine oA ?_
           rfl
         apply Tri.ret
         apply bR
         apply sR
         refine inLoop_ret ?_
         exact hR _ _ (by rw [hpg, hq0]; simp)
     · have hc : ((b.toNat : Int) == 46) = false := by rw [← hatR, beq_eq_false_iff_ne]; exact hc0
       have hpg : dotG s (n + 1 + 1) i = dotG s (n + 1) (i + 1) := by rw [dotG, if_neg (by omega), if_neg hc0]
       have hF := ai @h1 (ai @h3 (ai @hin (ai @hin2 (ai @hat (ai @hat2 (ai @hc (ai @hsl1 (ai @hsl2 (ai @hle @hw1)))))))))
       refine LTri.round' ?_
       apply sQ
       apply rS hC
       · iterate 5 refine oA ?_
         rfl
       refine cT (by simp [hF] <;> rfl) ?_
       apply Tri.skip
       apply sN
       apply sQ
       apply bK
       apply rS hC
       · iterate 5 refine oA ?_
         rfl
       refine cF (by simp [hF] <;> rfl) ?_
       apply Tri.skip
       apply bN
       apply sN
       apply rN hC
       · iterate 3 refine oA ?_
         rfl
       refine inLoop_norm ?_
       refine ih (i + 1) _ _ (by omega) (by simp [hw]) (by simp [h1]) (by simp [h3]) (fun t' H' k1 k2 k3 => hE t' H' k1 (by rw [hpg]; exact k2) k3) (fun t' H' k1 => hR t' H' (by rw [hpg]; exact k1))
   · have hout : ¬ (i : Int) < s.length := by omega
     have hout2 : s.length ≤ i := by omega
     have hF := ai @h1 (ai @h3 @hout)
     refine LTri.round' ?_
     apply sQ
     apply rS hC
     · iterate 5 refine oA ?_
       rfl
     refine cF (by simp [hF] <;> rfl) ?_
     refine Tri.exit ?_
     refine inSeq_exit ?_
     refine inLoop_exit ?_
     exact hE _ _ (by simp [hw]) (by simp [dotG, hout2]) (by simp [h1])

def scL : List Tk ⊕ (Int × Int) → V
  | .inl l => .isl 4 (l.map fun x => .agg (tkL x))
  | .inr _ => .nils
def scC : List Tk ⊕ (Int × Int) → Int
  | .inl _ => 0
  | .inr p => p.2
theorem tkL_eq (x : Tk) : tkL x = [.i .i64 x.1, .s x.2.1, .i .i64 x.2.2.1, .b x.2.2.2] := rfl
theorem tok1080 {call : CallF} (hC : call.Sound Tryz.prog TT) {k0 k : Int} {s : List UInt8} {l : List V} {r : List Tk ⊕ (Int × Int)} {t : Tm} {H : Heap} {Q : Out → Prop} (hw : t.wid = 135) (h1 : t.get 1 = .ipt 3 [.agg [.i .i64 k0, .s s, .isl 3 l]] 0 0) (h4 : t.get 4 = scL r) (h6 : t.get 6 = .i .i64 (scC r)) (h7 : t.get 7 = .i .i64 k)
    (hQ : ∀ (t' : Tm) (H' : Heap), t'.get 2 = .b (tokB k s r) → Q (.ret t' H')) : Tri Tryz.prog TT (sub [true, false, true, false, true, true, true, true, true, true, true, false, true, true, true] (bodyOf Tryz.f80)) t H Q := by
  cases r with
  | inr p =>
    simp only [scL, scC] at h4 h6
    cases hc : (p.2 == 0) with
    | false =>
      have hF := ai @h1 (ai @h4 (ai @h6 (ai @h7 @hc)))
      apply sQ
      refine Tri.regN (t' := ?ta1) (H' := ?Ha1) TT_ok hC ?ea1 ?qa1
      case ea1 =>
        refine evReg_quiet (t' := ?ta1) (by kernel_rfl) ?_ ?ra901
        iterate 3 refine QR.val rfl (by simp [hF] <;> rfl) (by rfl) (by simp [hw]) ?_
        iterate 3 refine QR.off (by simp [wants, hF]) (by simp [hw]) ?_
        iterate 2 refine QR.val rfl (by simp [hF] <;> rfl) (by rfl) (by simp [hw]) ?_
        iterate 6 refine QR.off (by simp [wants, hF]) (by simp [hw]) ?_
        iterate 2 refine QR.val rfl (by simp [hF] <;> rfl) (by rfl) (by simp [hw]) ?_
        iterate 7 refine QR.off (by simp [wants, hF]) (by simp [hw]) ?_
        iterate 2 refine QR.val rfl (by simp [hF] <;> rfl) (by rfl) (by simp [hw]) ?_
        exact QR.nil
        case ra901 => exact rfl
      apply sN
      apply Tri.ret
      exact hQ _ _ (by simp [tokB])
    | true =>
      have hF := ai @h1 (ai @h4 (ai @h6 (ai @h7 @hc)))
      apply sQ
      refine Tri.regN (t' := ?tb1) (H' := ?Hb1) TT_ok hC ?eb1 ?qb1
      case eb1 =>
        refine evReg_quiet (t' := ?tb1) (by kernel_rfl) ?_ ?rb901
        iterate 3 refine QR.val rfl (by simp [hF] <;> rfl) (by rfl) (by simp [hw]) ?_
        iterate 3 refine QR.val (by simp [wants, hF]) (by simp [hF] <;> rfl) (by rfl) (by simp [hw]) ?_
        iterate 2 refine QR.val rfl (by simp [hF] <;> rfl) (by rfl) (by simp [hw]) ?_
        iterate 6 refine QR.off (by simp [wants, hF]) (by simp [hw]) ?_
        iterate 2 refine QR.val rfl (by simp [hF] <;> rfl) (by rfl) (by simp [hw]) ?_
        iterate 7 refine QR.off (by simp [wants, hF]) (by simp [hw]) ?_
        iterate 2 refine QR.val rfl (by simp [hF] <;> rfl) (by rfl) (by simp [hw]) ?_
        exact QR.nil
        case rb901 => exact rfl
      apply sN
      apply Tri.ret
      exact hQ _ _ (by simp [tokB])
  | inl L =>
    match L, h4, h6, hQ with
    | [], h4, h6, hQ =>
      simp only [scL, scC, List.map_nil] at h4 h6
      have hF := ai @h1 (ai @h4 (ai @h6 @h7))
      apply sQ
      refine Tri.regN (t' := ?tc1) (H' := ?Hc1) TT_ok hC ?ec1 ?qc1
      case ec1 =>
        refine evReg_quiet (t' := ?tc1) (by kernel_rfl) ?_ ?rc901
        iterate 3 refine QR.val rfl (by simp [hF] <;> rfl) (by rfl) (by simp [hw]) ?_
        iterate 3 refine QR.val (by simp [wants, hF]) (by simp [hF] <;> rfl) (by rfl) (by simp [hw]) ?_
        iterate 2 refine QR.val rfl (by simp [hF] <;> rfl) (by rfl) (by simp [hw]) ?_
        iterate 6 refine QR.off (by simp [wants, hF]) (by simp [hw]) ?_
        iterate 2 refine QR.val rfl (by simp [hF] <;> rfl) (by rfl) (by simp [hw]) ?_
        iterate 7 refine QR.off (by simp [wants, hF]) (by simp [hw]) ?_
        iterate 2 refine QR.val rfl (by simp [hF] <;> rfl) (by rfl) (by simp [hw]) ?_
        exact QR.nil
        case rc901 => exact rfl
      apply sN
      apply Tri.ret
      exact hQ _ _ (by simp [tokB])
    | [x], h4, h6, hQ =>
      simp only [scL, scC, List.map_cons, List.map_nil, tkL_eq] at h4 h6
      cases hk : (x.1 == k) with
      | false =>
        have hF := ai @h1 (ai @h4 (ai @h6 (ai @h7 @hk)))
        apply sQ
        refine Tri.regN (t' := ?td1) (H' := ?Hd1) TT_ok hC ?ed1 ?qd1
        case ed1 =>
          refine evReg_quiet (t' := ?td1) (by kernel_rfl) ?_ ?rd901
          iterate 3 refine QR.val rfl (by simp [hF] <;> rfl) (by rfl) (by simp [hw]) ?_
          iterate 3 refine QR.val (by simp [wants, hF]) (by simp [hF] <;> rfl) (by rfl) (by simp [hw]) ?_
          iterate 2 refine QR.val rfl (by simp [hF] <;> rfl) (by rfl) (by simp [hw]) ?_
          iterate 6 refine QR.val (by simp [wants, hF]) (by simp [hF] <;> rfl) (by rfl) (by simp [hw]) ?_
          iterate 2 refine QR.val rfl (by simp [hF] <;> rfl) (by rfl) (by simp [hw]) ?_
          iterate 7 refine QR.off (by simp [wants, hF]) (by simp [hw]) ?_
          iterate 2 refine QR.val rfl (by simp [hF] <;> rfl) (by rfl) (by simp [hw]) ?_
          exact QR.nil
          case rd901 => exact rfl
        apply sN
        apply Tri.ret
        exact hQ _ _ (by simp [tokB, hk])
      | true =>
        have hF := ai @h1 (ai @h4 (ai @h6 (ai @h7 @hk)))
        apply sQ
        refine Tri.regN (t' := ?te1) (H' := ?He1) TT_ok hC ?ee1 ?qe1
        case ee1 =>
          refine evReg_quiet (t' := ?te1) (by kernel_rfl) ?_ ?re901
          iterate 3 refine QR.val rfl (by simp [hF] <;> rfl) (by rfl) (by simp [hw]) ?_
          iterate 3 refine QR.val (by simp [wants, hF]) (by simp [hF] <;> rfl) (by rfl) (by simp [hw]) ?_
          iterate 2 refine QR.val rfl (by simp [hF] <;> rfl) (by rfl) (by simp [hw]) ?_
          iterate 6 refine QR.val (by simp [wants, hF]) (by simp [hF] <;> rfl) (by rfl) (by simp [hw]) ?_
          iterate 2 refine QR.val rfl (by simp [hF] <;> rfl) (by rfl) (by simp [hw]) ?_
          iterate 7 refine QR.val (by simp [wants, hF]) (by simp [hF] <;> rfl) (by rfl) (by simp [hw]) ?_
          iterate 2 refine QR.val rfl (by simp [hF] <;> rfl) (by rfl) (by simp [hw]) ?_
          exact QR.nil
          case re901 => exact rfl
        apply sN
        apply Tri.ret
        exact hQ _ _ (by simp [tokB, hk])
    | x :: y :: L, h4, h6, hQ =>
      simp only [scL, scC, List.map_cons, tkL_eq] at h4 h6
      have hlen : ((L.length : Int) + 1 + 1 == 1) = false := by rw [beq_eq_false_iff_ne]; omega
      have hF := ai @h1 (ai @h4 (ai @h6 (ai @h7 @hlen)))
      apply sQ
      refine Tri.regN (t' := ?tf1) (H' := ?Hf1) TT_ok hC ?ef1 ?qf1
      case ef1 =>
        refine evReg_quiet (t' := ?tf1) (by kernel_rfl) ?_ ?rf901
        iterate 3 refine QR.val rfl (by simp [hF] <;> rfl) (by rfl) (by simp [hw]) ?_
        iterate 3 refine QR.val (by simp [wants, hF]) (by simp [hF] <;> rfl) (by rfl) (by simp [hw]) ?_
        iterate 2 refine QR.val rfl (by simp [hF] <;> rfl) (by rfl) (by simp [hw]) ?_
        iterate 6 refine QR.off (by simp [wants, hF]) (by simp [hw]) ?_
        iterate 2 refine QR.val rfl (by simp [hF] <;> rfl) (by rfl) (by simp [hw]) ?_
        iterate 7 refine QR.off (by simp [wants, hF]) (by simp [hw]) ?_
        iterate 2 refine QR.val rfl (by simp [hF] <;> rfl) (by rfl) (by simp [hw]) ?_
        exact QR.nil
        case rf901 => exact rfl
      apply sN
      apply Tri.ret
      exact hQ _ _ (by simp [tokB])
end Go.Ev
