/- Walks over the looks at texts and nodes, with what they return. Walks over a search in a row of nodes. Walks over the look at one node, with what it returns. Too many parts, or too deep: what the count returns, for every tree. Walks over the loops of the reference. -/
import Derived.Test.YtddpjgoboboidaaGreatDoorKT3
import Derived.Test.YtddpjgoboboidaaGreatDoorKT15
import Derived.Test.YtddpjgoboboidaaGreatDoorKPlE
import Derived.Test.YtddpjgoboboidaaGreatDoorKEvIter2
import Derived.Test.YtddpjgoboboidaaGreatDoorKAt2
import Derived.Test.YtddpjgoboboidaaGreatDoorKT40
namespace Go.Ev
open Go Go.Proofs
set_option linter.unusedSimpArgs false
set_option linter.unusedVariables false
set_option maxRecDepth 100000
theorem body_34pa {call : CallF} (hC : call.Sound Tryz.prog TT) (hs : ∀ H, call 73 [.s []] H = .val (.b false) H)  : EBody Tryz.prog TT 48 [.s []] (fun w => w = .val (.b false)) := by
 refine en Tryz.f48 rfl rfl (by simp [Tryz.f48]) 28 rfl fun t hw hg => ?_
 have h0 := hg 0 _ rfl
 clear hg
 try simp only [Nd.enc_eq] at *
 apply rS hC
 · refine oA ?_
   rfl
 apply rS hC
 · iterate 3 refine oA ?_
   iterate 7 refine oC ?_
   iterate 2 refine oA ?_
   iterate 12 refine oC ?_
   iterate 2 refine oA ?_
   rfl
 apply Tri.ret
 refine endsE (by simp [Tryz.f48] <;> rfl) (by rfl) ?_
 first
  | rfl
  | simp [*]
theorem body_34pb {call : CallF} (hC : call.Sound Tryz.prog TT) (c : UInt8) (r : List UInt8) (b : Bool) (hs : ∀ H, call 73 [.s (c :: r)] H = .val (.b b) H)  : EBody Tryz.prog TT 48 [.s (c :: r)] (fun w => w = .val (.b (b && (((c :: r) == [48]) || ((c.toNat : Int) != 48)) && (decide ((r.length : Int) + 1 < 39) || (((r.length : Int) + 1 == 39) && (Op.bytesLess (c :: r) maxS || ((c :: r) == maxS))))))) := by
 refine en Tryz.f48 rfl rfl (by simp [Tryz.f48]) 28 rfl fun t hw hg => ?_
 have h0 := hg 0 _ rfl
 clear hg
 try simp only [Nd.enc_eq] at *
 apply rS hC
 · refine oA ?_
   rfl
 apply sQ
 cases hB1 : (b : Bool)
 case false =>
  apply rN hC
  · iterate 3 refine oA ?_
    iterate 7 refine oC ?_
    iterate 2 refine oA ?_
    iterate 12 refine oC ?_
    iterate 2 refine oA ?_
    rfl
  apply sN
  apply Tri.ret
  refine endsE (by simp [Tryz.f48] <;> rfl) (by rfl) ?_
  simp [*, maxS]
 case true =>
  cases hB2 : ((c :: r) == [48] : Bool)
  case false =>
   cases hB3 : ((c.toNat : Int) != 48 : Bool)
   case false =>
    apply rN hC
    · iterate 3 refine oA ?_
      iterate 7 refine oB ?_
      iterate 2 refine oA ?_
      iterate 12 refine oC ?_
      iterate 2 refine oA ?_
      rfl
    apply sN
    apply Tri.ret
    refine endsE (by simp [Tryz.f48] <;> rfl) (by rfl) ?_
    simp [*, maxS]
   case true =>
    cases hB4 : (decide ((r.length : Int) + 1 < 39) : Bool)
    case false =>
     cases hB5 : ((r.length : Int) + 1 == 39 : Bool)
     case false =>
      apply rN hC
      · iterate 3 refine oA ?_
        iterate 7 refine oB ?_
        iterate 2 refine oA ?_
        iterate 8 refine oB ?_
        iterate 2 refine oC ?_
        iterate 2 refine oB ?_
        iterate 2 refine oA ?_
        rfl
      apply sN
      apply Tri.ret
      refine endsE (by simp [Tryz.f48] <;> rfl) (by rfl) ?_
      simp [*, maxS]
     case true =>
      apply rN hC
      · iterate 3 refine oA ?_
        iterate 7 refine oB ?_
        iterate 2 refine oA ?_
        iterate 12 refine oB ?_
        iterate 2 refine oA ?_
        rfl
      apply sN
      apply Tri.ret
      refine endsE (by simp [Tryz.f48] <;> rfl) (by rfl) ?_
      simp [*, maxS]
    case true =>
     apply rN hC
     · iterate 3 refine oA ?_
       iterate 7 refine oB ?_
       iterate 2 refine oA ?_
       iterate 4 refine oB ?_
       iterate 7 refine oC ?_
       refine oB ?_
       iterate 2 refine oA ?_
       rfl
     apply sN
     apply Tri.ret
     refine endsE (by simp [Tryz.f48] <;> rfl) (by rfl) ?_
     simp [*, maxS]
  case true =>
   cases hB6 : (decide ((r.length : Int) + 1 < 39) : Bool)
   case false =>
    cases hB7 : ((r.length : Int) + 1 == 39 : Bool)
    case false =>
     apply rN hC
     · iterate 3 refine oA ?_
       iterate 3 refine oB ?_
       iterate 3 refine oC ?_
       refine oB ?_
       iterate 2 refine oA ?_
       iterate 8 refine oB ?_
       iterate 2 refine oC ?_
       iterate 2 refine oB ?_
       iterate 2 refine oA ?_
       rfl
     apply sN
     apply Tri.ret
     refine endsE (by simp [Tryz.f48] <;> rfl) (by rfl) ?_
     simp [*, maxS]
    case true =>
     apply rN hC
     · iterate 3 refine oA ?_
       iterate 3 refine oB ?_
       iterate 3 refine oC ?_
       refine oB ?_
       iterate 2 refine oA ?_
       iterate 12 refine oB ?_
       iterate 2 refine oA ?_
       rfl
     apply sN
     apply Tri.ret
     refine endsE (by simp [Tryz.f48] <;> rfl) (by rfl) ?_
     simp [*, maxS]
   case true =>
    apply rN hC
    · iterate 3 refine oA ?_
      iterate 3 refine oB ?_
      iterate 3 refine oC ?_
      refine oB ?_
      iterate 2 refine oA ?_
      iterate 4 refine oB ?_
      iterate 7 refine oC ?_
      refine oB ?_
      iterate 2 refine oA ?_
      rfl
    apply sN
    apply Tri.ret
    refine endsE (by simp [Tryz.f48] <;> rfl) (by rfl) ?_
    simp [*, maxS]
theorem body_76pa {call : CallF} (hC : call.Sound Tryz.prog TT) (s : List UInt8) (c : UInt8) (hn : decide (0 ≤ Lib.indexByte s c) = false) (hs : ∀ H, call 120 [.s s, .s [c]] H = .val (.i .i64 (Lib.indexByte s c)) H)  : EBody Tryz.prog TT 94 [.s s, .s [c]] (fun w => w = .val (.tup [.s s, .s [], .b false])) := by
 refine en Tryz.f94 rfl rfl (by simp [Tryz.f94]) 23 rfl fun t hw hg => ?_
 have h0 := hg 0 _ rfl
 have h1 := hg 1 _ rfl
 clear hg
 try simp only [Nd.enc_eq] at *
 have hF := ai @h0 (ai @h1 (ai @hs @hn))
 apply rS hC
 · iterate 3 refine oA ?_
   rfl
 apply sQ
 apply rS hC
 · iterate 4 refine oA ?_
   rfl
 apply rS hC
 · iterate 2 refine oA ?_
   rfl
 refine cF (by simp [hF] <;> rfl) ?_ (by simp [hF])
 apply Tri.skip
 apply sN
 apply rS hC
 · iterate 4 refine oA ?_
   rfl
 apply Tri.ret
 refine endsE (by simp [Tryz.f94] <;> rfl) (by rfl) ?_
 first
  | rfl
  | simp [*]
theorem body_76pb {call : CallF} (hC : call.Sound Tryz.prog TT) (s : List UInt8) (c : UInt8) (n : Nat) (hn : Lib.indexByte s c = n) (hlt : n < s.length) (hle : n ≤ s.length) (hle2 : n + 1 ≤ s.length) (hlt2 : (n : Int) + 1 ≤ s.length) (hw1 : IntKind.i64.wrap ((n : Int) + 1) = n + 1) (hs : ∀ H, call 120 [.s s, .s [c]] H = .val (.i .i64 n) H)  : EBody Tryz.prog TT 94 [.s s, .s [c]] (fun w => w = .val (.tup [.s (s.take n), .s (s.drop (n + 1)), .b true])) := by
 refine en Tryz.f94 rfl rfl (by simp [Tryz.f94]) 23 rfl fun t hw hg => ?_
 have h0 := hg 0 _ rfl
 have h1 := hg 1 _ rfl
 clear hg
 try simp only [Nd.enc_eq] at *
 have hF := ai @h0 (ai @h1 (ai @hs (ai @hn (ai @hlt (ai @hlt2 (ai @hw1 (ai @hle @hle2)))))))
 apply rS hC
 · iterate 3 refine oA ?_
   rfl
 apply sQ
 apply rS hC
 · iterate 4 refine oA ?_
   rfl
 apply rS hC
 · iterate 2 refine oA ?_
   rfl
 refine cT (by simp [hF] <;> rfl) ?_ (by simp [hF])
 apply sQ
 refine Tri.regN (t' := ?t5) (H' := ?H5) TT_ok hC ?e5 ?q5
 case e5 =>
  refine evReg_quiet (t' := ?t5) (by kernel_rfl) ?_ ?r905
  iterate 12 refine QR.val rfl (by simp [hF] <;> rfl) (by rfl) (by simp [hw]) ?_
  exact QR.nil
  case r905 => exact rfl
 apply sN
 apply Tri.ret
 apply sR
 refine endsE (by simp [Tryz.f94] <;> rfl) (by rfl) ?_
 first
  | rfl
  | simp [*]
theorem body_35pnf {call : CallF} (hC : call.Sound Tryz.prog TT) (s : List UInt8) (sg : UInt8 → Bool) (h2 : ∀ c H, call 75 [.s [43, 45], .s [c]] H = .val (.b (sg c)) H) (a2 b2 : List UInt8) (f2 qa qb : Bool) (da : ∀ H, call 73 [.s a2] H = .val (.b qa) H) (db : ∀ H, call 73 [.s b2] H = .val (.b qb) H) (b : List UInt8) (a : List UInt8) (hl : decide ((20000 : Int) < s.length) = false) (h1 : ∀ H, call 74 [.s s, .s [101]] H = .val (.tup [.s a, .s b, .b false]) H) (h3 : ∀ H, call 74 [.s a, .s [46]] H = .val (.tup [.s a2, .s b2, .b f2]) H)  : EBody Tryz.prog TT 49 [.s s] (fun w => w = .val (.b (qa && (f2 && qb)))) := by
 refine en Tryz.f49 rfl rfl (by simp [Tryz.f49]) 53 rfl fun t hw hg => ?_
 have h0 := hg 0 _ rfl
 clear hg
 try simp only [Nd.enc_eq] at *
 have hF := ai @h0 (ai @h1 (ai @da (ai @db (ai @h2 (ai @h3 @hl)))))
 apply rS hC
 · refine oA ?_
   rfl
 apply sQ
 apply rS hC
 · iterate 3 refine oA ?_
   rfl
 refine cF (by simp [hF] <;> rfl) ?_ (by simp [hF])
 apply Tri.skip
 apply sN
 apply rS hC
 · iterate 9 refine oA ?_
   rfl
 apply sQ
 apply rS hC
 · refine oA ?_
   rfl
 refine cF (by simp [hF] <;> rfl) ?_ (by simp [hF])
 apply Tri.skip
 apply sN
 apply rS hC
 · iterate 9 refine oA ?_
   rfl
 apply sQ
 cases hB1 : (qa : Bool)
 case false =>
  apply rN hC
  · iterate 3 refine oA ?_
    iterate 12 refine oC ?_
    iterate 2 refine oA ?_
    rfl
  apply sN
  apply Tri.ret
  refine endsE (by simp [Tryz.f49, *] <;> rfl) (by rfl) ?_
  first
   | rfl
   | simp [*]
 case true =>
  cases hB2 : (f2 : Bool)
  case false =>
   apply rN hC
   · iterate 3 refine oA ?_
     iterate 2 refine oB ?_
     iterate 2 refine oC ?_
     iterate 8 refine oB ?_
     iterate 2 refine oA ?_
     rfl
   apply sN
   apply Tri.ret
   refine endsE (by simp [Tryz.f49, *] <;> rfl) (by rfl) ?_
   first
    | rfl
    | simp [*]
  case true =>
   cases hB3 : (qb : Bool)
   case false =>
    apply rN hC
    · iterate 3 refine oA ?_
      iterate 9 refine oB ?_
      refine oC ?_
      iterate 2 refine oB ?_
      iterate 2 refine oA ?_
      rfl
    apply sN
    apply Tri.ret
    refine endsE (by simp [Tryz.f49, *] <;> rfl) (by rfl) ?_
    first
     | rfl
     | simp [*]
   case true =>
    apply rN hC
    · iterate 3 refine oA ?_
      iterate 6 refine oB ?_
      iterate 5 refine oC ?_
      refine oB ?_
      iterate 2 refine oA ?_
      rfl
    apply sN
    apply Tri.ret
    refine endsE (by simp [Tryz.f49, *] <;> rfl) (by rfl) ?_
    first
     | rfl
     | simp [*]
theorem body_35pef {call : CallF} (hC : call.Sound Tryz.prog TT) (s : List UInt8) (sg : UInt8 → Bool) (h2 : ∀ c H, call 75 [.s [43, 45], .s [c]] H = .val (.b (sg c)) H) (a2 b2 : List UInt8) (f2 qa qb : Bool) (da : ∀ H, call 73 [.s a2] H = .val (.b qa) H) (db : ∀ H, call 73 [.s b2] H = .val (.b qb) H) (dc : ∀ H, call 73 [.s []] H = .val (.b false) H) (a : List UInt8) (hl : decide ((20000 : Int) < s.length) = false) (h1 : ∀ H, call 74 [.s s, .s [101]] H = .val (.tup [.s a, .s [], .b true]) H) (h3 : ∀ H, call 74 [.s a, .s [46]] H = .val (.tup [.s a2, .s b2, .b f2]) H)  : EBody Tryz.prog TT 49 [.s s] (fun w => w = .val (.b false)) := by
 refine en Tryz.f49 rfl rfl (by simp [Tryz.f49]) 53 rfl fun t hw hg => ?_
 have h0 := hg 0 _ rfl
 clear hg
 try simp only [Nd.enc_eq] at *
 have hF := ai @h0 (ai @h1 (ai @da (ai @db (ai @h2 (ai @h3 (ai @hl @dc))))))
 apply rS hC
 · refine oA ?_
   rfl
 apply sQ
 apply rS hC
 · iterate 3 refine oA ?_
   rfl
 refine cF (by simp [hF] <;> rfl) ?_ (by simp [hF])
 apply Tri.skip
 apply sN
 apply rS hC
 · iterate 9 refine oA ?_
   rfl
 apply sQ
 apply rS hC
 · refine oA ?_
   rfl
 refine cT (by simp [hF] <;> rfl) ?_ (by simp [hF])
 apply sQ
 apply rS hC
 · iterate 3 refine oA ?_
   iterate 3 refine oC ?_
   refine oA ?_
   rfl
 refine cF (by simp [hF] <;> rfl) ?_ (by simp [hF])
 apply Tri.skip
 apply sN
 apply rS hC
 · iterate 3 refine oA ?_
   rfl
 refine cT (by simp [hF] <;> rfl) ?_ (by simp [hF])
 apply rS hC
 · refine oA ?_
   rfl
 apply Tri.ret
 apply sR
 refine endsE (by simp [Tryz.f49, *] <;> rfl) (by rfl) ?_
 first
  | rfl
  | simp [*]
theorem body_35pcf {call : CallF} (hC : call.Sound Tryz.prog TT) (s : List UInt8) (sg : UInt8 → Bool) (h2 : ∀ c H, call 75 [.s [43, 45], .s [c]] H = .val (.b (sg c)) H) (a2 b2 : List UInt8) (f2 qa qb : Bool) (da : ∀ H, call 73 [.s a2] H = .val (.b qa) H) (db : ∀ H, call 73 [.s b2] H = .val (.b qb) H) (c : UInt8) (r : List UInt8) (dc : ∀ H, call 73 [.s (c :: r)] H = .val (.b false) H) (one_le : (1 : Int) ≤ r.length + 1) (a : List UInt8) (hl : decide ((20000 : Int) < s.length) = false) (h1 : ∀ H, call 74 [.s s, .s [101]] H = .val (.tup [.s a, .s (c :: r), .b true]) H) (hsg : sg c = false) (h3 : ∀ H, call 74 [.s a, .s [46]] H = .val (.tup [.s a2, .s b2, .b f2]) H)  : EBody Tryz.prog TT 49 [.s s] (fun w => w = .val (.b false)) := by
 refine en Tryz.f49 rfl rfl (by simp [Tryz.f49]) 53 rfl fun t hw hg => ?_
 have h0 := hg 0 _ rfl
 clear hg
 try simp only [Nd.enc_eq] at *
 have hF := ai @h0 (ai @h1 (ai @da (ai @db (ai @h2 (ai @h3 (ai @hl (ai @dc (ai @one_le @hsg))))))))
 apply rS hC
 · refine oA ?_
   rfl
 apply sQ
 apply rS hC
 · iterate 3 refine oA ?_
   rfl
 refine cF (by simp [hF] <;> rfl) ?_ (by simp [hF])
 apply Tri.skip
 apply sN
 apply rS hC
 · iterate 9 refine oA ?_
   rfl
 apply sQ
 apply rS hC
 · refine oA ?_
   rfl
 refine cT (by simp [hF] <;> rfl) ?_ (by simp [hF])
 apply sQ
 apply rS hC
 · iterate 3 refine oA ?_
   iterate 3 refine oB ?_
   refine oA ?_
   rfl
 refine cF (by simp [hF] <;> rfl) ?_ (by simp [hF])
 apply Tri.skip
 apply sN
 apply rS hC
 · iterate 3 refine oA ?_
   rfl
 refine cT (by simp [hF] <;> rfl) ?_ (by simp [hF])
 apply rS hC
 · refine oA ?_
   rfl
 apply Tri.ret
 apply sR
 refine endsE (by simp [Tryz.f49, *] <;> rfl) (by rfl) ?_
 first
  | rfl
  | simp [*]
theorem body_35pdf {call : CallF} (hC : call.Sound Tryz.prog TT) (s : List UInt8) (sg : UInt8 → Bool) (h2 : ∀ c H, call 75 [.s [43, 45], .s [c]] H = .val (.b (sg c)) H) (a2 b2 : List UInt8) (f2 qa qb : Bool) (da : ∀ H, call 73 [.s a2] H = .val (.b qa) H) (db : ∀ H, call 73 [.s b2] H = .val (.b qb) H) (c : UInt8) (r : List UInt8) (dr : ∀ H, call 73 [.s r] H = .val (.b false) H) (one_le : (1 : Int) ≤ r.length + 1) (a : List UInt8) (hl : decide ((20000 : Int) < s.length) = false) (h1 : ∀ H, call 74 [.s s, .s [101]] H = .val (.tup [.s a, .s (c :: r), .b true]) H) (hsg : sg c = true) (h3 : ∀ H, call 74 [.s a, .s [46]] H = .val (.tup [.s a2, .s b2, .b f2]) H)  : EBody Tryz.prog TT 49 [.s s] (fun w => w = .val (.b false)) := by
 refine en Tryz.f49 rfl rfl (by simp [Tryz.f49]) 53 rfl fun t hw hg => ?_
 have h0 := hg 0 _ rfl
 clear hg
 try simp only [Nd.enc_eq] at *
 have hF := ai @h0 (ai @h1 (ai @da (ai @db (ai @h2 (ai @h3 (ai @hl (ai @dr (ai @one_le @hsg))))))))
 apply rS hC
 · refine oA ?_
   rfl
 apply sQ
 apply rS hC
 · iterate 3 refine oA ?_
   rfl
 refine cF (by simp [hF] <;> rfl) ?_ (by simp [hF])
 apply Tri.skip
 apply sN
 apply rS hC
 · iterate 9 refine oA ?_
   rfl
 apply sQ
 apply rS hC
 · refine oA ?_
   rfl
 refine cT (by simp [hF] <;> rfl) ?_ (by simp [hF])
 apply sQ
 apply rS hC
 · iterate 3 refine oA ?_
   iterate 3 refine oB ?_
   refine oA ?_
   rfl
 refine cT (by simp [hF] <;> rfl) ?_ (by simp [hF])
 apply rN hC
 · iterate 3 refine oA ?_
   rfl
 apply sN
 apply rS hC
 · iterate 3 refine oA ?_
   rfl
 refine cT (by simp [hF] <;> rfl) ?_ (by simp [hF])
 apply rS hC
 · refine oA ?_
   rfl
 apply Tri.ret
 apply sR
 refine endsE (by simp [Tryz.f49, *] <;> rfl) (by rfl) ?_
 first
  | rfl
  | simp [*]
theorem body_35pct {call : CallF} (hC : call.Sound Tryz.prog TT) (s : List UInt8) (sg : UInt8 → Bool) (h2 : ∀ c H, call 75 [.s [43, 45], .s [c]] H = .val (.b (sg c)) H) (a2 b2 : List UInt8) (f2 qa qb : Bool) (da : ∀ H, call 73 [.s a2] H = .val (.b qa) H) (db : ∀ H, call 73 [.s b2] H = .val (.b qb) H) (c : UInt8) (r : List UInt8) (dc : ∀ H, call 73 [.s (c :: r)] H = .val (.b true) H) (one_le : (1 : Int) ≤ r.length + 1) (a : List UInt8) (hl : decide ((20000 : Int) < s.length) = false) (h1 : ∀ H, call 74 [.s s, .s [101]] H = .val (.tup [.s a, .s (c :: r), .b true]) H) (hsg : sg c = false) (h3 : ∀ H, call 74 [.s a, .s [46]] H = .val (.tup [.s a2, .s b2, .b f2]) H)  : EBody Tryz.prog TT 49 [.s s] (fun w => w = .val (.b (qa && ((f2 && qb) || !f2)))) := by
 refine en Tryz.f49 rfl rfl (by simp [Tryz.f49]) 53 rfl fun t hw hg => ?_
 have h0 := hg 0 _ rfl
 clear hg
 try simp only [Nd.enc_eq] at *
 have hF := ai @h0 (ai @h1 (ai @da (ai @db (ai @h2 (ai @h3 (ai @hl (ai @dc (ai @one_le @hsg))))))))
 apply rS hC
 · refine oA ?_
   rfl
 apply sQ
 apply rS hC
 · iterate 3 refine oA ?_
   rfl
 refine cF (by simp [hF] <;> rfl) ?_ (by simp [hF])
 apply Tri.skip
 apply sN
 apply rS hC
 · iterate 9 refine oA ?_
   rfl
 apply sQ
 apply rS hC
 · refine oA ?_
   rfl
 refine cT (by simp [hF] <;> rfl) ?_ (by simp [hF])
 apply sQ
 apply rS hC
 · iterate 3 refine oA ?_
   iterate 3 refine oB ?_
   refine oA ?_
   rfl
 refine cF (by simp [hF] <;> rfl) ?_ (by simp [hF])
 apply Tri.skip
 apply sN
 apply rS hC
 · iterate 3 refine oA ?_
   rfl
 refine cF (by simp [hF] <;> rfl) ?_ (by simp [hF])
 apply Tri.skip
 apply sN
 apply rS hC
 · iterate 9 refine oA ?_
   rfl
 apply sQ
 cases hB1 : (qa : Bool)
 case false =>
  apply rN hC
  · iterate 3 refine oA ?_
    iterate 12 refine oC ?_
    iterate 2 refine oA ?_
    rfl
  apply sN
  apply Tri.ret
  refine endsE (by simp [Tryz.f49, *] <;> rfl) (by rfl) ?_
  first
   | rfl
   | simp [*]
 case true =>
  cases hB2 : (f2 : Bool)
  case false =>
   apply rN hC
   · iterate 3 refine oA ?_
     iterate 2 refine oB ?_
     iterate 2 refine oC ?_
     iterate 8 refine oB ?_
     iterate 2 refine oA ?_
     rfl
   apply sN
   apply Tri.ret
   refine endsE (by simp [Tryz.f49, *] <;> rfl) (by rfl) ?_
   first
    | rfl
    | simp [*]
  case true =>
   cases hB3 : (qb : Bool)
   case false =>
    apply rN hC
    · iterate 3 refine oA ?_
      iterate 9 refine oB ?_
      refine oC ?_
      iterate 2 refine oB ?_
      iterate 2 refine oA ?_
      rfl
    apply sN
    apply Tri.ret
    refine endsE (by simp [Tryz.f49, *] <;> rfl) (by rfl) ?_
    first
     | rfl
     | simp [*]
   case true =>
    apply rN hC
    · iterate 3 refine oA ?_
      iterate 6 refine oB ?_
      iterate 5 refine oC ?_
      refine oB ?_
      iterate 2 refine oA ?_
      rfl
    apply sN
    apply Tri.ret
    refine endsE (by simp [Tryz.f49, *] <;> rfl) (by rfl) ?_
    first
     | rfl
     | simp [*]
theorem body_35pdt {call : CallF} (hC : call.Sound Tryz.prog TT) (s : List UInt8) (sg : UInt8 → Bool) (h2 : ∀ c H, call 75 [.s [43, 45], .s [c]] H = .val (.b (sg c)) H) (a2 b2 : List UInt8) (f2 qa qb : Bool) (da : ∀ H, call 73 [.s a2] H = .val (.b qa) H) (db : ∀ H, call 73 [.s b2] H = .val (.b qb) H) (c : UInt8) (r : List UInt8) (dr : ∀ H, call 73 [.s r] H = .val (.b true) H) (one_le : (1 : Int) ≤ r.length + 1) (a : List UInt8) (hl : decide ((20000 : Int) < s.length) = false) (h1 : ∀ H, call 74 [.s s, .s [101]] H = .val (.tup [.s a, .s (c :: r), .b true]) H) (hsg : sg c = true) (h3 : ∀ H, call 74 [.s a, .s [46]] H = .val (.tup [.s a2, .s b2, .b f2]) H)  : EBody Tryz.prog TT 49 [.s s] (fun w => w = .val (.b (qa && ((f2 && qb) || !f2)))) := by
 refine en Tryz.f49 rfl rfl (by simp [Tryz.f49]) 53 rfl fun t hw hg => ?_
 have h0 := hg 0 _ rfl
 clear hg
 try simp only [Nd.enc_eq] at *
 have hF := ai @h0 (ai @h1 (ai @da (ai @db (ai @h2 (ai @h3 (ai @hl (ai @dr (ai @one_le @hsg))))))))
 apply rS hC
 · refine oA ?_
   rfl
 apply sQ
 apply rS hC
 · iterate 3 refine oA ?_
   rfl
 refine cF (by simp [hF] <;> rfl) ?_ (by simp [hF])
 apply Tri.skip
 apply sN
 apply rS hC
 · iterate 9 refine oA ?_
   rfl
 apply sQ
 apply rS hC
 · refine oA ?_
   rfl
 refine cT (by simp [hF] <;> rfl) ?_ (by simp [hF])
 apply sQ
 apply rS hC
 · iterate 3 refine oA ?_
   iterate 3 refine oB ?_
   refine oA ?_
   rfl
 refine cT (by simp [hF] <;> rfl) ?_ (by simp [hF])
 apply rN hC
 · iterate 3 refine oA ?_
   rfl
 apply sN
 apply rS hC
 · iterate 3 refine oA ?_
   rfl
 refine cF (by simp [hF] <;> rfl) ?_ (by simp [hF])
 apply Tri.skip
 apply sN
 apply rS hC
 · iterate 9 refine oA ?_
   rfl
 apply sQ
 cases hB1 : (qa : Bool)
 case false =>
  apply rN hC
  · iterate 3 refine oA ?_
    iterate 12 refine oC ?_
    iterate 2 refine oA ?_
    rfl
  apply sN
  apply Tri.ret
  refine endsE (by simp [Tryz.f49, *] <;> rfl) (by rfl) ?_
  first
   | rfl
   | simp [*]
 case true =>
  cases hB2 : (f2 : Bool)
  case false =>
   apply rN hC
   · iterate 3 refine oA ?_
     iterate 2 refine oB ?_
     iterate 2 refine oC ?_
     iterate 8 refine oB ?_
     iterate 2 refine oA ?_
     rfl
   apply sN
   apply Tri.ret
   refine endsE (by simp [Tryz.f49, *] <;> rfl) (by rfl) ?_
   first
    | rfl
    | simp [*]
  case true =>
   cases hB3 : (qb : Bool)
   case false =>
    apply rN hC
    · iterate 3 refine oA ?_
      iterate 9 refine oB ?_
      refine oC ?_
      iterate 2 refine oB ?_
      iterate 2 refine oA ?_
      rfl
    apply sN
    apply Tri.ret
    refine endsE (by simp [Tryz.f49, *] <;> rfl) (by rfl) ?_
    first
     | rfl
     | simp [*]
   case true =>
    apply rN hC
    · iterate 3 refine oA ?_
      iterate 6 refine oB ?_
      iterate 5 refine oC ?_
      refine oB ?_
      iterate 2 refine oA ?_
      rfl
    apply sN
    apply Tri.ret
    refine endsE (by simp [Tryz.f49, *] <;> rfl) (by rfl) ?_
    first
     | rfl
     | simp [*]
theorem body_35pl {call : CallF} (hC : call.Sound Tryz.prog TT) (s : List UInt8) (hl : decide ((20000 : Int) < s.length) = true)  : EBody Tryz.prog TT 49 [.s s] (fun w => w = .val (.b false)) := by
 refine en Tryz.f49 rfl rfl (by simp [Tryz.f49]) 53 rfl fun t hw hg => ?_
 have h0 := hg 0 _ rfl
 clear hg
 try simp only [Nd.enc_eq] at *
 apply rS hC
 · refine oA ?_
   rfl
 apply sQ
 apply rS hC
 · iterate 3 refine oA ?_
   rfl
 refine cT (by simp [h0, hl] <;> rfl) ?_ (by simp [h0, hl])
 apply rS hC
 · refine oA ?_
   rfl
 apply Tri.ret
 apply sR
 refine endsE (by simp [Tryz.f49] <;> rfl) (by rfl) ?_
 first
  | rfl
  | simp [*]
theorem body_54p {call : CallF} (hC : call.Sound Tryz.prog TT) (s : List UInt8) (c : UInt8) (k : Int) (l : List (List UInt8)) (q : Bool) (hs : ∀ H, call 68 [.s s, .s [c]] H = .val (.isl 1 (encS l)) H) (hq : ∀ H, call 69 [.isl 1 (encS l), .fn 70 []] H = .val (.b q) H)  : EBody Tryz.prog TT 67 [.s s, .ipt 1 [.agg [.s [c]]] 0 0, .ipt 1 [.agg [.i .i64 k]] 0 0] (fun w => w = .val (.b (((k == 0) || decide ((l.length : Int) ≤ k)) && !q))) := by
 refine en Tryz.f67 rfl rfl (by simp [Tryz.f67]) 22 rfl fun t hw hg => ?_
 have h0 := hg 0 _ rfl
 have h1 := hg 1 _ rfl
 have h2 := hg 2 _ rfl
 clear hg
 try simp only [Nd.enc_eq] at *
 have hF := ai @h0 (ai @h1 (ai @h2 (ai @hs (ai @hq @encS_length))))
 apply rS hC
 · refine oA ?_
   rfl
 apply rS hC
 · iterate 4 refine oA ?_
   rfl
 apply sQ
 cases hB1 : (k == 0 : Bool)
 case false =>
  cases hB2 : (decide ((l.length : Int) ≤ k) : Bool)
  case false =>
   apply rN hC
   · iterate 3 refine oA ?_
     iterate 4 refine oB ?_
     iterate 2 refine oA ?_
     iterate 3 refine oC ?_
     iterate 2 refine oA ?_
     rfl
   apply sN
   apply Tri.ret
   refine endsE (by simp [Tryz.f67] <;> rfl) (by rfl) ?_
   first
    | rfl
    | simp [*]
  case true =>
   apply rN hC
   · iterate 3 refine oA ?_
     iterate 4 refine oB ?_
     iterate 2 refine oA ?_
     iterate 3 refine oB ?_
     iterate 2 refine oA ?_
     rfl
   apply sN
   apply Tri.ret
   refine endsE (by simp [Tryz.f67] <;> rfl) (by rfl) ?_
   first
    | rfl
    | simp [*]
 case true =>
  apply rN hC
  · iterate 3 refine oA ?_
    iterate 4 refine oC ?_
    iterate 2 refine oA ?_
    iterate 3 refine oB ?_
    iterate 2 refine oA ?_
    rfl
  apply sN
  apply Tri.ret
  refine endsE (by simp [Tryz.f67] <;> rfl) (by rfl) ?_
  first
   | rfl
   | simp [*]
theorem body_78pa {call : CallF} (hC : call.Sound Tryz.prog TT) (l : List Nd) (k : Int) (hs : ∀ H, call 79 [.isl 3 (Nd.encL l), .fn 121 [.ipt 1 [.agg [.i .i64 k]] 0 0]] H = .val (.i .i64 (-1)) H)  : EBody Tryz.prog TT 96 [.isl 3 (Nd.encL l), .i .i64 k] (fun w => w = .val (.b true)) := by
 refine en Tryz.f96 rfl rfl (by simp [Tryz.f96]) 19 rfl fun t hw hg => ?_
 have h0 := hg 0 _ rfl
 have h1 := hg 1 _ rfl
 clear hg
 skip
 have hF := ai @h0 (ai @h1 @hs)
 apply rS hC
 · iterate 2 refine oA ?_
   rfl
 apply sQ
 refine Tri.freeze_put 3 30 (v := .ipt 1 [.agg [.i .i64 k]] 0 0) (by simp [fz, fzL, nl, Nd.encL_nl, h0, h1] <;> rfl) ?_
 apply rN hC
 · iterate 4 refine oA ?_
   rfl
 apply sN
 apply rS hC
 · iterate 3 refine oA ?_
   iterate 6 refine oC ?_
   iterate 2 refine oA ?_
   rfl
 apply Tri.ret
 refine endsE (by simp [Tryz.f96] <;> rfl) (by rfl) ?_
 first
  | rfl
  | simp [*]
theorem body_78pb {call : CallF} (hC : call.Sound Tryz.prog TT) (l : List Nd) (k : Int) (n : Nat) (q : Bool) (hn : n < l.length) (hn2 : n ≤ l.length) (hs : ∀ H, call 79 [.isl 3 (Nd.encL l), .fn 121 [.ipt 1 [.agg [.i .i64 k]] 0 0]] H = .val (.i .i64 n) H) (hq : ∀ H, call 55 [.isl 3 (Nd.encL (l.drop n)), .fn 122 [.ipt 1 [.agg [.i .i64 k]] 0 0]] H = .val (.b q) H)  : EBody Tryz.prog TT 96 [.isl 3 (Nd.encL l), .i .i64 k] (fun w => w = .val (.b (!q))) := by
 refine en Tryz.f96 rfl rfl (by simp [Tryz.f96]) 19 rfl fun t hw hg => ?_
 have h0 := hg 0 _ rfl
 have h1 := hg 1 _ rfl
 clear hg
 skip
 have hF := ai @h0 (ai @h1 (ai @hs (ai @hq (ai @hn (ai @hn2 (ai @encL_take @encL_drop))))))
 apply rS hC
 · iterate 2 refine gO (by simp [hF, Nd.encL_length] <;> rfl) ?_
   rfl
 apply sQ
 refine Tri.freeze_put 3 30 (v := .ipt 1 [.agg [.i .i64 k]] 0 0) (by simp [fz, fzL, nl, Nd.encL_nl, h0, h1] <;> rfl) ?_
 apply rN hC
 · iterate 4 refine gO (by simp [hF, Nd.encL_length] <;> rfl) ?_
   rfl
 apply sN
 apply rS hC
 · iterate 3 refine gO (by simp [hF, Nd.encL_length] <;> rfl) ?_
   iterate 6 refine gW (by simp [wants, hF, Nd.encL_length]) (by simp [hF, Nd.encL_length] <;> rfl) ?_
   iterate 2 refine gO (by simp [hF, Nd.encL_length] <;> rfl) ?_
   rfl
 apply Tri.ret
 refine endsE (by simp [Tryz.f96] <;> rfl) (by rfl) ?_
 first
  | rfl
  | simp [*]
theorem body_38p {call : CallF} (hC : call.Sound Tryz.prog TT) (x : Nd) (q : Bool) (hq : ∀ H, call 55 [.isl 3 (Nd.encL x.kids), .fn 77 []] H = .val (.b q) H)  : EBody Tryz.prog TT 52 [x.enc] (fun w => w = .val (.b ((x.kind == 23 || x.kind == 26 || x.kind == 28 || x.kind == 31) || (x.kind == 34 && !q)))) := by
 refine en Tryz.f52 rfl rfl (by simp [Tryz.f52]) 19 rfl fun t hw hg => ?_
 have h0 := hg 0 _ rfl
 clear hg
 try simp only [Nd.enc_eq] at *
 apply rS hC
 · iterate 2 refine oA ?_
   rfl
 apply sQ
 apply rS hC
 · iterate 2 refine oA ?_
   rfl
 apply bK
 apply sQ
 apply rS hC
 · iterate 2 refine oA ?_
   rfl
 refine Tri.condG (o := ?o4) (b := ?b4) ?g4 ?r4 ?y4 ?n4
 case g4 => simp [h0, hq] <;> rfl
 case r4 => rfl
 case y4 =>
  intro hy4
  apply Tri.skip
  apply sN
  refine cT (by simp [h0, hq, hy4] <;> rfl) ?_ (by simp [h0, hq, hy4])
  apply rS hC
  · refine oA ?_
    rfl
  apply Tri.ret
  apply bR
  apply sR
  refine endsE (by simp [Tryz.f52] <;> rfl) (by rfl) ?_
  first
   | rfl
   | simp [*]
 case n4 =>
  intro hn4
  apply rS hC
  · iterate 2 refine oA ?_
    rfl
  refine Tri.condG (o := ?o8) (b := ?b8) ?g8 ?r8 ?y8 ?n8
  case g8 => simp [h0, hq, hn4] <;> rfl
  case r8 => rfl
  case y8 =>
   intro hy8
   apply Tri.skip
   apply sN
   refine cT (by simp [h0, hq, hn4, hy8] <;> rfl) ?_ (by simp [h0, hq, hn4, hy8])
   apply rS hC
   · refine oA ?_
     rfl
   apply Tri.ret
   apply bR
   apply sR
   refine endsE (by simp [Tryz.f52] <;> rfl) (by rfl) ?_
   first
    | rfl
    | simp [*]
  case n8 =>
   intro hn8
   apply rS hC
   · iterate 2 refine oA ?_
     rfl
   refine Tri.condG (o := ?o12) (b := ?b12) ?g12 ?r12 ?y12 ?n12
   case g12 => simp [h0, hq, hn4, hn8] <;> rfl
   case r12 => rfl
   case y12 =>
    intro hy12
    apply Tri.skip
    apply sN
    refine cT (by simp [h0, hq, hn4, hn8, hy12] <;> rfl) ?_ (by simp [h0, hq, hn4, hn8, hy12])
    apply rS hC
    · refine oA ?_
      rfl
    apply Tri.ret
    apply bR
    apply sR
    refine endsE (by simp [Tryz.f52] <;> rfl) (by rfl) ?_
    first
     | rfl
     | simp [*]
   case n12 =>
    intro hn12
    apply rN hC
    · iterate 2 refine oA ?_
      rfl
    apply sN
    refine Tri.condG (o := ?o16) (b := ?b16) ?g16 ?r16 ?y16 ?n16
    case g16 => simp [h0, hq, hn4, hn8, hn12] <;> rfl
    case r16 => rfl
    case y16 =>
     intro hy16
     apply rS hC
     · refine oA ?_
       rfl
     apply Tri.ret
     apply bR
     apply sR
     refine endsE (by simp [Tryz.f52] <;> rfl) (by rfl) ?_
     first
      | rfl
      | simp [*]
    case n16 =>
     intro hn16
     apply Tri.skip
     apply bN
     apply sN
     apply sQ
     cases hB1 : (x.kind == 34 : Bool)
     case false =>
      apply rN hC
      · iterate 4 refine oA ?_
        iterate 4 refine oC ?_
        iterate 2 refine oA ?_
        rfl
      apply sN
      apply Tri.ret
      refine endsE (by simp [Tryz.f52] <;> rfl) (by rfl) ?_
      first
       | rfl
       | simp [*]
     case true =>
      apply rN hC
      · iterate 4 refine oA ?_
        iterate 4 refine oB ?_
        iterate 2 refine oA ?_
        rfl
      apply sN
      apply Tri.ret
      refine endsE (by simp [Tryz.f52] <;> rfl) (by rfl) ?_
      first
       | rfl
       | simp [*]
theorem body_65pm {call : CallF} (hC : call.Sound Tryz.prog TT) (x : Nd) (hk : x.kind = 1) (q : Bool) (hq : ∀ H, call 96 [.isl 3 (Nd.encL x.kids), .i .i64 3] H = .val (.b q) H)  : EBody Tryz.prog TT 78 [.ipt 285 [.agg shCells] 0 0, x.enc] (fun w => w = .val (.b q)) := by
 refine en Tryz.f78 rfl rfl (by simp [Tryz.f78]) 40 rfl fun t hw hg => ?_
 have h0 := hg 0 _ rfl
 have h1 := hg 1 _ rfl
 clear hg
 try simp only [Nd.enc_eq] at *
 have hF := ai @h0 (ai @h1 (ai @hk @hq))
 apply rS hC
 · iterate 2 refine oA ?_
   rfl
 apply sQ
 apply rS hC
 · iterate 2 refine oA ?_
   rfl
 apply bK
 apply rS hC
 · iterate 2 refine oA ?_
   rfl
 refine cT (by simp [hF] <;> rfl) ?_ (by simp [hF])
 apply rS hC
 · iterate 4 refine oA ?_
   rfl
 apply Tri.ret
 apply bR
 apply sR
 refine endsE (by simp [Tryz.f78] <;> rfl) (by rfl) ?_
 first
  | rfl
  | simp [*]
theorem body_65pc {call : CallF} (hC : call.Sound Tryz.prog TT) (x : Nd) (hk : x.kind = 31) (q : Bool) (hl : (2 : Int) ≤ x.kids.length) (hq : ∀ H, call 96 [.isl 3 (Nd.encL (x.kids.drop 2)), .i .i64 32] H = .val (.b q) H)  : EBody Tryz.prog TT 78 [.ipt 285 [.agg shCells] 0 0, x.enc] (fun w => w = .val (.b q)) := by
 refine en Tryz.f78 rfl rfl (by simp [Tryz.f78]) 40 rfl fun t hw hg => ?_
 have h0 := hg 0 _ rfl
 have h1 := hg 1 _ rfl
 clear hg
 try simp only [Nd.enc_eq] at *
 have hF := ai @h0 (ai @h1 (ai @hk (ai @hq (ai @hl (ai @encL_take @encL_drop)))))
 apply rS hC
 · iterate 2 refine gO (by simp [hF, Nd.encL_length] <;> rfl) ?_
   rfl
 apply sQ
 apply rS hC
 · iterate 2 refine gO (by simp [hF, Nd.encL_length] <;> rfl) ?_
   rfl
 apply bK
 apply rS hC
 · iterate 2 refine gO (by simp [hF, Nd.encL_length] <;> rfl) ?_
   rfl
 refine cF (by simp [hF, Nd.encL_length] <;> rfl) ?_ (by simp [hF, Nd.encL_length])
 apply rS hC
 · iterate 2 refine gO (by simp [hF, Nd.encL_length] <;> rfl) ?_
   rfl
 refine cT (by simp [hF, Nd.encL_length] <;> rfl) ?_ (by simp [hF, Nd.encL_length])
 apply rS hC
 · iterate 5 refine gO (by simp [hF, Nd.encL_length] <;> rfl) ?_
   rfl
 apply Tri.ret
 apply bR
 apply sR
 refine endsE (by simp [Tryz.f78] <;> rfl) (by rfl) ?_
 first
  | rfl
  | simp [*]
theorem body_65po {call : CallF} (hC : call.Sound Tryz.prog TT) (x : Nd) (k1 : ¬ x.kind = 1) (k2 : ¬ x.kind = 31) (k3 : ¬ x.kind = 3)  : EBody Tryz.prog TT 78 [.ipt 285 [.agg shCells] 0 0, x.enc] (fun w => w = .val (.b true)) := by
 refine en Tryz.f78 rfl rfl (by simp [Tryz.f78]) 40 rfl fun t hw hg => ?_
 have h0 := hg 0 _ rfl
 have h1 := hg 1 _ rfl
 clear hg
 try simp only [Nd.enc_eq] at *
 have hF := ai @h0 (ai @h1 (ai @k1 (ai @k2 @k3)))
 apply rS hC
 · iterate 2 refine oA ?_
   rfl
 apply sQ
 apply rS hC
 · iterate 2 refine oA ?_
   rfl
 apply bK
 apply rS hC
 · iterate 2 refine oA ?_
   rfl
 refine cF (by simp [hF] <;> rfl) ?_ (by simp [hF])
 apply rS hC
 · iterate 2 refine oA ?_
   rfl
 refine cF (by simp [hF] <;> rfl) ?_ (by simp [hF])
 apply rS hC
 · iterate 2 refine oA ?_
   rfl
 refine cF (by simp [hF] <;> rfl) ?_ (by simp [hF])
 apply Tri.skip
 apply bN
 apply sN
 apply rS hC
 · refine oA ?_
   rfl
 apply Tri.ret
 refine endsE (by simp [Tryz.f78] <;> rfl) (by rfl) ?_
 first
  | rfl
  | simp [*]
theorem body_65pe {call : CallF} (hC : call.Sound Tryz.prog TT) (x : Nd) (a b c d : Nd) (r : List Nd) (hk : x.kind = 3) (hl : x.kids = a :: b :: c :: d :: r) (hp0 : (0 : Int) < r.length + 1 + 1 + 1 + 1) (hp3 : (3 : Int) < r.length + 1 + 1 + 1 + 1)  : EBody Tryz.prog TT 78 [.ipt 285 [.agg shCells] 0 0, x.enc] (fun w => w = .val (.b (!(a.text == [116, 121, 112, 101]) || (d.kind != 5 && ((r.length : Int) + 1 + 1 + 1 + 1 == 4))))) := by
 refine en Tryz.f78 rfl rfl (by simp [Tryz.f78]) 40 rfl fun t hw hg => ?_
 have h0 := hg 0 _ rfl
 have h1 := hg 1 _ rfl
 clear hg
 try simp only [Nd.enc_eq] at *
 have hF := ai @h0 (ai @h1 (ai @hk (ai @hl (ai @hp0 @hp3))))
 apply rS hC
 · iterate 2 refine gO (by simp [hF, Nd.encL, Nd.encL_length, Nd.enc_eq] <;> rfl) ?_
   rfl
 apply sQ
 apply rS hC
 · iterate 2 refine gO (by simp [hF, Nd.encL, Nd.encL_length, Nd.enc_eq] <;> rfl) ?_
   rfl
 apply bK
 apply rS hC
 · iterate 2 refine gO (by simp [hF, Nd.encL, Nd.encL_length, Nd.enc_eq] <;> rfl) ?_
   rfl
 refine cF (by simp [hF, Nd.encL, Nd.encL_length, Nd.enc_eq] <;> rfl) ?_ (by simp [hF, Nd.encL, Nd.encL_length, Nd.enc_eq])
 apply rS hC
 · iterate 2 refine gO (by simp [hF, Nd.encL, Nd.encL_length, Nd.enc_eq] <;> rfl) ?_
   rfl
 refine cF (by simp [hF, Nd.encL, Nd.encL_length, Nd.enc_eq] <;> rfl) ?_ (by simp [hF, Nd.encL, Nd.encL_length, Nd.enc_eq])
 apply rS hC
 · iterate 2 refine gO (by simp [hF, Nd.encL, Nd.encL_length, Nd.enc_eq] <;> rfl) ?_
   rfl
 refine cT (by simp [hF, Nd.encL, Nd.encL_length, Nd.enc_eq] <;> rfl) ?_ (by simp [hF, Nd.encL, Nd.encL_length, Nd.enc_eq])
 apply sQ
 cases hB1 : (!(a.text == [116, 121, 112, 101]) : Bool)
 case false =>
  cases hB2 : (d.kind != 5 : Bool)
  case false =>
   apply rN hC
   · iterate 7 refine gO (by simp [hF, Nd.encL, Nd.encL_length, Nd.enc_eq, hB1, hB2] <;> rfl) ?_
     iterate 7 refine gW (by simp [wants, hF, Nd.encL, Nd.encL_length, Nd.enc_eq, hB1, hB2]) (by simp [hF, Nd.encL, Nd.encL_length, Nd.enc_eq, hB1, hB2] <;> rfl) ?_
     iterate 4 refine gF (by simp [wants, hF, Nd.encL, Nd.encL_length, Nd.enc_eq, hB1, hB2]) ?_
     refine gW (by simp [wants, hF, Nd.encL, Nd.encL_length, Nd.enc_eq, hB1, hB2]) (by simp [hF, Nd.encL, Nd.encL_length, Nd.enc_eq, hB1, hB2] <;> rfl) ?_
     iterate 2 refine gO (by simp [hF, Nd.encL, Nd.encL_length, Nd.enc_eq, hB1, hB2] <;> rfl) ?_
     rfl
   apply sN
   apply Tri.ret
   apply bR
   apply sR
   refine endsE (by simp [Tryz.f78] <;> rfl) (by rfl) ?_
   first
    | rfl
    | simp [*]
  case true =>
   apply rN hC
   · iterate 7 refine gO (by simp [hF, Nd.encL, Nd.encL_length, Nd.enc_eq, hB1, hB2] <;> rfl) ?_
     iterate 12 refine gW (by simp [wants, hF, Nd.encL, Nd.encL_length, Nd.enc_eq, hB1, hB2]) (by simp [hF, Nd.encL, Nd.encL_length, Nd.enc_eq, hB1, hB2] <;> rfl) ?_
     iterate 2 refine gO (by simp [hF, Nd.encL, Nd.encL_length, Nd.enc_eq, hB1, hB2] <;> rfl) ?_
     rfl
   apply sN
   apply Tri.ret
   apply bR
   apply sR
   refine endsE (by simp [Tryz.f78] <;> rfl) (by rfl) ?_
   first
    | rfl
    | simp [*]
 case true =>
  apply rN hC
  · iterate 7 refine gO (by simp [hF, Nd.encL, Nd.encL_length, Nd.enc_eq, hB1] <;> rfl) ?_
    iterate 12 refine gF (by simp [wants, hF, Nd.encL, Nd.encL_length, Nd.enc_eq, hB1]) ?_
    iterate 2 refine gO (by simp [hF, Nd.encL, Nd.encL_length, Nd.enc_eq, hB1] <;> rfl) ?_
    rfl
  apply sN
  apply Tri.ret
  apply bR
  apply sR
  refine endsE (by simp [Tryz.f78] <;> rfl) (by rfl) ?_
  first
   | rfl
   | simp [*]
def idxF (p : Nd → Bool) : List Nd → Nat → Int
  | [], _ => -1
  | x :: l, i => if p x = true then i else idxF p l (i + 1)
theorem loop66i {call : CallF} (hC : call.Sound Tryz.prog TT) (g : FuncId) (cs : List V) (p : Nd → Bool) (hx0 : TT.ext g = none) {Q : Out → Prop} : ∀ (L pre : List Nd) (t : Tm) (H : Heap), (∀ x ∈ L, ∀ H, call g (x.enc :: cs) H = .val (.b (p x)) H) →
    (pre ++ L).length < 1100000 → t.wid = 19 → t.get 0 = .isl 3 (Nd.encL (pre ++ L)) → t.get 1 = .fn g cs → t.get 7 = .i .i64 (pre ++ L).length → t.get 8 = .i .i64 pre.length →
    (∀ t' H', t'.wid = 19 → idxF p L pre.length = -1 → Q (.exit 0 t' H')) →
    (∀ t' H' (i : Nat), t'.wid = 19 → idxF p L pre.length = i → t'.get 4 = .i .i64 i → i < (pre ++ L).length → Q (.ret t' H')) →
    LTri Tryz.prog TT (sub [true, false, true, false, false] (bodyOf Tryz.f79)) t H Q := by
 intro L
 induction L with
 | nil =>
   intro pre t H hg hlen hw h0 h1 h7 h8 hE hR
   have hF := ai @h0 (ai @h1 (ai @h7 (ai @h8 @hx0)))
   refine LTri.round' ?_
   apply rS hC
   · refine gO (by simp [hF, Nd.encL_length, Nd.enc_eq] <;> rfl) ?_
     rfl
   apply sQ
   refine cF (by simp [hF, Nd.encL_length, Nd.enc_eq] <;> rfl) ?_
   refine Tri.exit ?_
   refine inSeq_exit ?_
   refine inLoop_exit ?_
   exact hE _ _ (by simp [hw]) rfl
 | cons x L ih =>
   intro pre t H hg hlen hw h0 h1 h7 h8 hE hR
   have hlt := fin_len pre.length L.length
   have hat := encL_at pre x L
   have hat2 := encL_at2 pre x L
   have hr := hg x (by simp)
   simp only [Nd.enc_eq] at hr
   have hF := ai @h0 (ai @h1 (ai @h7 (ai @h8 (ai @hx0 (ai @hlt (ai @hat (ai @hat2 @hr)))))))
   refine LTri.round' ?_
   apply rS hC
   · refine gO (by simp [hF, Nd.encL_length, Nd.enc_eq] <;> rfl) ?_
     rfl
   apply sQ
   refine Tri.condG (o := ?o2) (b := ?b2) ?g2 ?r2 ?y2 ?n2
   case g2 => simp [hF, Nd.encL_length, Nd.enc_eq] <;> rfl
   case r2 => rfl
   case y2 =>
    intro hy2
    apply Tri.skip
    apply sN
    apply sQ
    apply bK
    apply rS hC
    · iterate 2 refine gO (by simp [hF, Nd.encL_length, Nd.enc_eq] <;> rfl) ?_
      rfl
    apply rS hC
    · iterate 6 refine gO (by simp [hF, Nd.encL_length, Nd.enc_eq] <;> rfl) ?_
      rfl
    refine Tri.condG (o := ?o5) (b := ?b5) ?g5 ?r5 ?y5 ?n5
    case g5 => simp [hF, Nd.encL_length, Nd.enc_eq] <;> rfl
    case r5 => rfl
    case y5 =>
     intro hy5
     have hx : p x = true := by simpa using hy5
     apply rS hC
     · iterate 2 refine gO (by simp [hF, Nd.encL_length, Nd.enc_eq] <;> rfl) ?_
       rfl
     apply Tri.ret
     apply bR
     apply sR
     refine inLoop_ret ?_
     exact hR _ _ pre.length (by simp [hw]) (by rw [idxF, hx]; rfl) (by simp [get_put, get_none]) (by simp)
    case n5 =>
     intro hn5
     have hx : p x = false := by simpa using hn5
     apply Tri.skip
     apply bN
     apply sN
     apply rN hC
     · iterate 2 refine gO (by simp [hF, Nd.encL_length, Nd.enc_eq] <;> rfl) ?_
       rfl
     refine inLoop_norm ?_
     refine ih (pre ++ [x]) _ _ (fun x hx => hg x (List.mem_cons_of_mem _ hx)) (by simpa using hlen) (by simp [hw]) (by simp [h0]) (by simp [h1]) (by simp [h7]) (by simp; exact wrap_i64 (by omega) (by simp at hlen; omega)) ?_ ?_
     · intro t' H' hw' he
       exact hE t' H' hw' (by rw [idxF, hx, if_neg (by decide)]; simpa using he)
     · intro t' H' i hw' he h4 hi
       exact hR t' H' i hw' (by rw [idxF, hx, if_neg (by decide)]; simpa using he) h4 (by simpa using hi)
   case n2 =>
    intro hn2
    exfalso
    simp at hn2

theorem body_66i {call : CallF} (hC : call.Sound Tryz.prog TT) (l : List Nd) (g : FuncId) (cs : List V) (p : Nd → Bool) (hx0 : TT.ext g = none) (hg : ∀ x ∈ l, ∀ H, call g (x.enc :: cs) H = .val (.b (p x)) H) (hlen : l.length < 1100000)  : EBody Tryz.prog TT 79 [.isl 3 (Nd.encL l), .fn g cs] (fun r => ∃ i : Int, r = .val (.i .i64 i) ∧ i = idxF p l 0 ∧ -1 ≤ i ∧ i < l.length) := by
 refine en Tryz.f79 rfl rfl (by simp [Tryz.f79]) 19 rfl fun t hw hg => ?_
 have h0 := hg 0 _ rfl
 have h1 := hg 1 _ rfl
 clear hg
 skip
 apply rS hC
 · refine gO (by simp [h0, h1, Nd.encL_length] <;> rfl) ?_
   rfl
 apply sQ
 apply rS hC
 · iterate 3 refine gO (by simp [h0, h1, Nd.encL_length] <;> rfl) ?_
   rfl
 apply bK
 refine Tri.loop ?_
 refine loop66i hC g cs p hx0 l [] _ _ hg (by simpa using hlen) (by simp [hw]) (by simp [h0]) (by simp [h1]) (by simp [Nd.encL_length]) (by simp) ?exit ?ret
 case exit =>
  intro t2 H2 hw he
  rw [List.length_nil] at he
  refine inBlk_exit ?_
  apply sN
  apply rS hC
  · refine gO (by simp [h0, h1, Nd.encL_length] <;> rfl) ?_
    rfl
  apply Tri.ret
  first
  | exact ⟨_, ⟨(i : Int), rfl, he.symm, by omega, by simp at hi; omega⟩, by simp [Ends, Tryz.f79, h4]⟩
  | exact ⟨_, ⟨-1, rfl, he.symm, by omega, by omega⟩, by simp [Ends, Tryz.f79]⟩
 case ret =>
  intro t2 H2 i hw he h4 hi
  rw [List.length_nil] at he
  apply bR
  apply sR
  first
  | exact ⟨_, ⟨(i : Int), rfl, he.symm, by omega, by simp at hi; omega⟩, by simp [Ends, Tryz.f79, h4]⟩
  | exact ⟨_, ⟨-1, rfl, he.symm, by omega, by omega⟩, by simp [Ends, Tryz.f79]⟩
theorem body_40plo {call : CallF} (hC : call.Sound Tryz.prog TT) (x : Nd) (h1k : decide (x.kind < 1) = true)  : EBody Tryz.prog TT 54 [.ipt 285 [.agg shCells] 0 0, x.enc] (fun w => w = .val (.b false)) := by
 refine en Tryz.f54 rfl rfl (by simp [Tryz.f54]) 99 rfl fun t hw hg => ?_
 have h0 := hg 0 _ rfl
 have h1 := hg 1 _ rfl
 clear hg
 try simp only [Nd.enc_eq] at *
 have hF := ai @h0 (ai @h1 @h1k)
 apply rS hC
 · iterate 2 refine oA ?_
   rfl
 apply sQ
 apply rS hC
 · iterate 4 refine oA ?_
   iterate 3 refine oC ?_
   refine oA ?_
   rfl
 refine cT (by simp [hF] <;> rfl) ?_
 apply rS hC
 · refine oA ?_
   rfl
 apply Tri.ret
 apply sR
 refine endsE (by simp [Tryz.f54] <;> rfl) (by rfl) ?_
 rfl
theorem body_40phi {call : CallF} (hC : call.Sound Tryz.prog TT) (x : Nd) (h1k : decide (x.kind < 1) = false) (h2k : decide ((56 : Int) < x.kind) = true)  : EBody Tryz.prog TT 54 [.ipt 285 [.agg shCells] 0 0, x.enc] (fun w => w = .val (.b false)) := by
 refine en Tryz.f54 rfl rfl (by simp [Tryz.f54]) 99 rfl fun t hw hg => ?_
 have h0 := hg 0 _ rfl
 have h1 := hg 1 _ rfl
 clear hg
 try simp only [Nd.enc_eq] at *
 have hF := ai @h0 (ai @h1 (ai @h1k @h2k))
 apply rS hC
 · iterate 2 refine oA ?_
   rfl
 apply sQ
 apply rS hC
 · iterate 4 refine oA ?_
   iterate 3 refine oB ?_
   refine oA ?_
   rfl
 refine cT (by simp [hF] <;> rfl) ?_
 apply rS hC
 · refine oA ?_
   rfl
 apply Tri.ret
 apply sR
 refine endsE (by simp [Tryz.f54] <;> rfl) (by rfl) ?_
 rfl
theorem body_40pa {call : CallF} (hC : call.Sound Tryz.prog TT) (x : Nd) (k : Nat) (hk : x.kind = k) (k1 : ¬ (k : Int) < 1) (k2 : ¬ (56 : Int) < k) (k3 : (k : Int) < 57) (tf : FuncId) (tc kl : List V) (rs : V) (lst : Int) (c1 : shCells[k * 5 + 1]? = some (.fn tf tc)) (c2 : shCells[k * 5 + 2]? = some (.isl 1 kl)) (c3 : shCells[k * 5 + 3]? = some rs) (c4 : shCells[k * 5 + 4]? = some (.i .i64 lst)) (hx0 : TT.ext tf = none) (wl : IntKind.i64.wrap (kl.length + lst) = kl.length + lst) (ht : ∀ H, call tf (.s x.text :: tc) H = .val (.b false) H)  : EBody Tryz.prog TT 54 [.ipt 285 [.agg shCells] 0 0, x.enc] (fun w => w = .val (.b false)) := by
 refine en Tryz.f54 rfl rfl (by simp [Tryz.f54]) 99 rfl fun t hw hg => ?_
 have h0 := hg 0 _ rfl
 have h1 := hg 1 _ rfl
 clear hg
 try simp only [Nd.enc_eq] at *
 have hF := ai @h0 (ai @h1 (ai @hk (ai @k1 (ai @k2 (ai @k3 (ai @c1 (ai @c2 (ai @c3 (ai @c4 (ai @hx0 (ai @wl @ht)))))))))))
 apply rS hC
 · iterate 2 refine gO (by simp [hF, Nd.encL_length] <;> rfl) ?_
   rfl
 apply sQ
 apply rS hC
 · iterate 4 refine gO (by simp [hF, Nd.encL_length] <;> rfl) ?_
   iterate 3 refine gW (by simp [wants, hF, Nd.encL_length]) (by simp [hF, Nd.encL_length] <;> rfl) ?_
   refine gO (by simp [hF, Nd.encL_length] <;> rfl) ?_
   rfl
 refine cF (by simp [hF, Nd.encL_length] <;> rfl) ?_
 apply Tri.skip
 apply sN
 apply sQ
 refine Tri.regN (t' := ?t4) (H' := ?H4) TT_ok hC ?e4 ?q4
 case e4 =>
  refine evReg_quiet (t' := ?t4) (by kernel_rfl) ?_ ?r904
  iterate 7 refine QR.val rfl (by simp [hF, Nd.encL_length] <;> rfl) (by rfl) (by simp [hw]) ?_
  exact QR.nil
  case r904 => exact rfl
 apply sN
 iterate 2 apply sQ
 refine Tri.regN (t' := ?t5) (H' := ?H5) TT_ok hC ?e5 ?q5
 case e5 =>
  refine evReg_quiet (t' := ?t5) (by kernel_rfl) ?_ ?r905
  iterate 9 refine QR.val rfl (by simp [hF, Nd.encL_length] <;> rfl) (by rfl) (by simp [hw]) ?_
  iterate 14 refine QR.off (by simp [wants, hF, Nd.encL_length]) (by simp [hw]) ?_
  iterate 2 refine QR.val rfl (by simp [hF, Nd.encL_length] <;> rfl) (by rfl) (by simp [hw]) ?_
  iterate 16 refine QR.off (by simp [wants, hF, Nd.encL_length]) (by simp [hw]) ?_
  refine QR.val rfl (by simp [hF, Nd.encL_length] <;> rfl) (by rfl) (by simp [hw]) ?_
  exact QR.nil
  case r905 => exact rfl
 apply sN
 refine cT (by simp [hF, Nd.encL_length] <;> rfl) ?_
 apply rS hC
 · refine gO (by simp [hF, Nd.encL_length] <;> rfl) ?_
   rfl
 apply Tri.ret
 apply sR
 refine endsE (by simp [Tryz.f54] <;> rfl) (by rfl) ?_
 rfl
theorem body_40pb {call : CallF} (hC : call.Sound Tryz.prog TT) (x : Nd) (k : Nat) (hk : x.kind = k) (k1 : ¬ (k : Int) < 1) (k2 : ¬ (56 : Int) < k) (k3 : (k : Int) < 57) (tf : FuncId) (tc kl : List V) (rs : V) (lst : Int) (c1 : shCells[k * 5 + 1]? = some (.fn tf tc)) (c2 : shCells[k * 5 + 2]? = some (.isl 1 kl)) (c3 : shCells[k * 5 + 3]? = some rs) (c4 : shCells[k * 5 + 4]? = some (.i .i64 lst)) (hx0 : TT.ext tf = none) (wl : IntKind.i64.wrap (kl.length + lst) = kl.length + lst) (ht : ∀ H, call tf (.s x.text :: tc) H = .val (.b true) H) (hl : (x.kids.length : Int) < kl.length + lst)  : EBody Tryz.prog TT 54 [.ipt 285 [.agg shCells] 0 0, x.enc] (fun w => w = .val (.b false)) := by
 refine en Tryz.f54 rfl rfl (by simp [Tryz.f54]) 99 rfl fun t hw hg => ?_
 have h0 := hg 0 _ rfl
 have h1 := hg 1 _ rfl
 clear hg
 try simp only [Nd.enc_eq] at *
 have hF := ai @h0 (ai @h1 (ai @hk (ai @k1 (ai @k2 (ai @k3 (ai @c1 (ai @c2 (ai @c3 (ai @c4 (ai @hx0 (ai @wl (ai @ht @hl))))))))))))
 apply rS hC
 · iterate 2 refine gO (by simp [hF, Nd.encL_length] <;> rfl) ?_
   rfl
 apply sQ
 apply rS hC
 · iterate 4 refine gO (by simp [hF, Nd.encL_length] <;> rfl) ?_
   iterate 3 refine gW (by simp [wants, hF, Nd.encL_length]) (by simp [hF, Nd.encL_length] <;> rfl) ?_
   refine gO (by simp [hF, Nd.encL_length] <;> rfl) ?_
   rfl
 refine cF (by simp [hF, Nd.encL_length] <;> rfl) ?_
 apply Tri.skip
 apply sN
 apply sQ
 refine Tri.regN (t' := ?t4) (H' := ?H4) TT_ok hC ?e4 ?q4
 case e4 =>
  refine evReg_quiet (t' := ?t4) (by kernel_rfl) ?_ ?r904
  iterate 7 refine QR.val rfl (by simp [hF, Nd.encL_length] <;> rfl) (by rfl) (by simp [hw]) ?_
  exact QR.nil
  case r904 => exact rfl
 apply sN
 iterate 2 apply sQ
 refine Tri.regN (t' := ?t5) (H' := ?H5) TT_ok hC ?e5 ?q5
 case e5 =>
  refine evReg_quiet (t' := ?t5) (by kernel_rfl) ?_ ?r905
  iterate 9 refine QR.val rfl (by simp [hF, Nd.encL_length] <;> rfl) (by rfl) (by simp [hw]) ?_
  iterate 14 refine QR.val (by simp [wants, hF, Nd.encL_length]) (by simp [hF, Nd.encL_length] <;> rfl) (by rfl) (by simp [hw]) ?_
  iterate 2 refine QR.val rfl (by simp [hF, Nd.encL_length] <;> rfl) (by rfl) (by simp [hw]) ?_
  iterate 16 refine QR.off (by simp [wants, hF, Nd.encL_length]) (by simp [hw]) ?_
  refine QR.val rfl (by simp [hF, Nd.encL_length] <;> rfl) (by rfl) (by simp [hw]) ?_
  exact QR.nil
  case r905 => exact rfl
 apply sN
 refine cT (by simp [hF, Nd.encL_length] <;> rfl) ?_
 apply rS hC
 · refine gO (by simp [hF, Nd.encL_length] <;> rfl) ?_
   rfl
 apply Tri.ret
 apply sR
 refine endsE (by simp [Tryz.f54] <;> rfl) (by rfl) ?_
 rfl
theorem body_40pc {call : CallF} (hC : call.Sound Tryz.prog TT) (x : Nd) (k : Nat) (hk : x.kind = k) (k1 : ¬ (k : Int) < 1) (k2 : ¬ (56 : Int) < k) (k3 : (k : Int) < 57) (tf : FuncId) (tc kl : List V) (rs : V) (lst : Int) (c1 : shCells[k * 5 + 1]? = some (.fn tf tc)) (c2 : shCells[k * 5 + 2]? = some (.isl 1 kl)) (c3 : shCells[k * 5 + 3]? = some rs) (c4 : shCells[k * 5 + 4]? = some (.i .i64 lst)) (hx0 : TT.ext tf = none) (wl : IntKind.i64.wrap (kl.length + lst) = kl.length + lst) (hr : rs = .nilf) (ht : ∀ H, call tf (.s x.text :: tc) H = .val (.b true) H) (hl : ¬ (x.kids.length : Int) < kl.length + lst) (hl2 : (kl.length : Int) < x.kids.length)  : EBody Tryz.prog TT 54 [.ipt 285 [.agg shCells] 0 0, x.enc] (fun w => w = .val (.b false)) := by
 refine en Tryz.f54 rfl rfl (by simp [Tryz.f54]) 99 rfl fun t hw hg => ?_
 have h0 := hg 0 _ rfl
 have h1 := hg 1 _ rfl
 clear hg
 try simp only [Nd.enc_eq] at *
 have hF := ai @h0 (ai @h1 (ai @hk (ai @k1 (ai @k2 (ai @k3 (ai @c1 (ai @c2 (ai @c3 (ai @c4 (ai @hx0 (ai @wl (ai @ht (ai @hl (ai @hl2 @hr))))))))))))))
 apply rS hC
 · iterate 2 refine gO (by simp [hF, Nd.encL_length] <;> rfl) ?_
   rfl
 apply sQ
 apply rS hC
 · iterate 4 refine gO (by simp [hF, Nd.encL_length] <;> rfl) ?_
   iterate 3 refine gW (by simp [wants, hF, Nd.encL_length]) (by simp [hF, Nd.encL_length] <;> rfl) ?_
   refine gO (by simp [hF, Nd.encL_length] <;> rfl) ?_
   rfl
 refine cF (by simp [hF, Nd.encL_length] <;> rfl) ?_
 apply Tri.skip
 apply sN
 apply sQ
 refine Tri.regN (t' := ?t4) (H' := ?H4) TT_ok hC ?e4 ?q4
 case e4 =>
  refine evReg_quiet (t' := ?t4) (by kernel_rfl) ?_ ?r904
  iterate 7 refine QR.val rfl (by simp [hF, Nd.encL_length] <;> rfl) (by rfl) (by simp [hw]) ?_
  exact QR.nil
  case r904 => exact rfl
 apply sN
 iterate 2 apply sQ
 refine Tri.regN (t' := ?t5) (H' := ?H5) TT_ok hC ?e5 ?q5
 case e5 =>
  refine evReg_quiet (t' := ?t5) (by kernel_rfl) ?_ ?r905
  iterate 9 refine QR.val rfl (by simp [hF, Nd.encL_length] <;> rfl) (by rfl) (by simp [hw]) ?_
  iterate 14 refine QR.val (by simp [wants, hF, Nd.encL_length]) (by simp [hF, Nd.encL_length] <;> rfl) (by rfl) (by simp [hw]) ?_
  iterate 2 refine QR.val rfl (by simp [hF, Nd.encL_length] <;> rfl) (by rfl) (by simp [hw]) ?_
  iterate 16 refine QR.val (by simp [wants, hF, Nd.encL_length]) (by simp [hF, Nd.encL_length] <;> rfl) (by rfl) (by simp [hw]) ?_
  refine QR.val rfl (by simp [hF, Nd.encL_length] <;> rfl) (by rfl) (by simp [hw]) ?_
  exact QR.nil
  case r905 => exact rfl
 apply sN
 refine cT (by simp [hF, Nd.encL_length] <;> rfl) ?_
 apply rS hC
 · refine gO (by simp [hF, Nd.encL_length] <;> rfl) ?_
   rfl
 apply Tri.ret
 apply sR
 refine endsE (by simp [Tryz.f54] <;> rfl) (by rfl) ?_
 rfl
def KidP (call : CallF) (kl : List V) (rs : V) (pv : Nat → Nd → Bool) (i : Nat) (y : Nd) : Prop :=
  ∃ (f : FuncId) (c : List V), (if i < kl.length then kl[i]? = some (.fn f c) else rs = .fn f c) ∧ TT.ext f = none ∧ ∀ H, call f (y.enc :: c) H = .val (.b (pv i y)) H
def allI (pv : Nat → Nd → Bool) : Nat → List Nd → Bool
  | _, [] => true
  | i, y :: L => pv i y && allI pv (i + 1) L
theorem loop40p {call : CallF} (hC : call.Sound Tryz.prog TT) (k : Nat) (kl : List V) (rs : V) (pv : Nat → Nd → Bool) (c2 : shCells[k * 5 + 2]? = some (.isl 1 kl)) (c3 : shCells[k * 5 + 3]? = some rs) (v3 : V) {Q : Out → Prop} : ∀ (L pre : List Nd) (t : Tm) (H : Heap),
    (∀ i y, L[i]? = some y → KidP call kl rs pv (pre.length + i) y) → (pre ++ L).length < 1100000 → t.wid = 99 → t.get 0 = .ipt 285 [.agg shCells] 0 0 → t.get 3 = v3 → t.get 5 = .ipt 285 [.agg shCells] 0 (k * 5) → t.get 66 = .isl 3 (Nd.encL (pre ++ L)) → t.get 67 = .i .i64 (pre ++ L).length → t.get 68 = .i .i64 pre.length →
    (∀ t' H', t'.wid = 99 → t'.get 0 = .ipt 285 [.agg shCells] 0 0 → t'.get 3 = v3 → allI pv pre.length L = true → Q (.exit 0 t' H')) → (∀ t' H', t'.wid = 99 → allI pv pre.length L = false → t'.get 4 = .b false → Q (.ret t' H')) → LTri Tryz.prog TT (sub [true, true, true, true, false, true, false, false] (bodyOf Tryz.f54)) t H Q := by
 intro L
 induction L with
 | nil =>
   intro pre t H hp hlen hw h0 h3 h5 h66 h67 h68 hE hR
   have hF := ai @h5 (ai @h66 (ai @h67 @h68))
   refine LTri.round' ?_
   apply rS hC
   · refine gO (by simp [hF, Nd.encL_length, Nd.enc_eq] <;> rfl) ?_
     rfl
   apply sQ
   refine cF (by simp [hF, Nd.encL_length, Nd.enc_eq] <;> rfl) ?_
   refine Tri.exit ?_
   refine inSeq_exit ?_
   refine inLoop_exit ?_
   exact hE _ _ (by simp [hw]) (by simp [h0]) (by simp [h3]) rfl
 | cons x L ih =>
   intro pre t H hp hlen hw h0 h3 h5 h66 h67 h68 hE hR
   have hlt := fin_len pre.length L.length
   have hat := encL_at pre x L
   have hat2 := encL_at2 pre x L
   obtain ⟨f, c, hk0, hx1, hcall⟩ := hp 0 x rfl
   simp only [Nd.enc_eq, Nat.add_zero] at hcall
   by_cases hi : pre.length < kl.length
   · rw [Nat.add_zero, if_pos hi] at hk0
     have hk1 : kl[pre.length]? = some (.fn f c) := hk0
     have hk2 : ∀ h, kl[pre.length]'h = .fn f c := fun h => by rw [List.getElem?_eq_getElem h] at hk1; exact Option.some.inj hk1
     cases hpv : pv pre.length x with
     | false =>
       rw [hpv] at hcall
       have hF := ai @h5 (ai @h66 (ai @h67 (ai @h68 (ai @hlt (ai @hat (ai @hat2 (ai @hcall (ai @c2 (ai @c3 (ai @hx1 (ai @hi (ai @hk1 @hk2))))))))))))
       refine LTri.round' ?_
       apply rS hC
       · refine gO (by simp [hF, Nd.encL_length, Nd.enc_eq] <;> rfl) ?_
         rfl
       apply sQ
       refine cT (by simp [hF, Nd.encL_length, Nd.enc_eq] <;> rfl) ?_
       apply Tri.skip
       apply sN
       apply sQ
       apply bK
       apply rS hC
       · iterate 6 refine gO (by simp [hF, Nd.encL_length, Nd.enc_eq] <;> rfl) ?_
         rfl
       apply rS hC
       · iterate 5 refine gO (by simp [hF, Nd.encL_length, Nd.enc_eq] <;> rfl) ?_
         rfl
       apply sQ
       apply rS hC
       · iterate 7 refine gO (by simp [hF, Nd.encL_length, Nd.enc_eq] <;> rfl) ?_
         rfl
       refine cT (by simp [hF, Nd.encL_length, Nd.enc_eq] <;> rfl) ?_
       apply rN hC
       · iterate 8 refine gO (by simp [hF, Nd.encL_length, Nd.enc_eq] <;> rfl) ?_
         rfl
       apply sN
       apply rS hC
       · iterate 4 refine gO (by simp [hF, Nd.encL_length, Nd.enc_eq] <;> rfl) ?_
         rfl
       refine cT (by simp [hF, Nd.encL_length, Nd.enc_eq] <;> rfl) ?_
       apply rS hC
       · refine gO (by simp [hF, Nd.encL_length, Nd.enc_eq] <;> rfl) ?_
         rfl
       apply Tri.ret
       apply bR
       apply sR
       refine inLoop_ret ?_
       exact hR _ _ (by simp [hw]) (by rw [allI, hpv]; rfl) (by simp)
     | true =>
       rw [hpv] at hcall
       have hF := ai @h5 (ai @h66 (ai @h67 (ai @h68 (ai @hlt (ai @hat (ai @hat2 (ai @hcall (ai @c2 (ai @c3 (ai @hx1 (ai @hi (ai @hk1 @hk2))))))))))))
       refine LTri.round' ?_
       apply rS hC
       · refine gO (by simp [hF, Nd.encL_length, Nd.enc_eq] <;> rfl) ?_
         rfl
       apply sQ
       refine cT (by simp [hF, Nd.encL_length, Nd.enc_eq] <;> rfl) ?_
       apply Tri.skip
       apply sN
       apply sQ
       apply bK
       apply rS hC
       · iterate 6 refine gO (by simp [hF, Nd.encL_length, Nd.enc_eq] <;> rfl) ?_
         rfl
       apply rS hC
       · iterate 5 refine gO (by simp [hF, Nd.encL_length, Nd.enc_eq] <;> rfl) ?_
         rfl
       apply sQ
       apply rS hC
       · iterate 7 refine gO (by simp [hF, Nd.encL_length, Nd.enc_eq] <;> rfl) ?_
         rfl
       refine cT (by simp [hF, Nd.encL_length, Nd.enc_eq] <;> rfl) ?_
       apply rN hC
       · iterate 8 refine gO (by simp [hF, Nd.encL_length, Nd.enc_eq] <;> rfl) ?_
         rfl
       apply sN
       apply rS hC
       · iterate 4 refine gO (by simp [hF, Nd.encL_length, Nd.enc_eq] <;> rfl) ?_
         rfl
       refine cF (by simp [hF, Nd.encL_length, Nd.enc_eq] <;> rfl) ?_
       apply Tri.skip
       apply bN
       apply sN
       apply rN hC
       · iterate 2 refine gO (by simp [hF, Nd.encL_length, Nd.enc_eq] <;> rfl) ?_
         rfl
       refine inLoop_norm ?_
       refine ih (pre ++ [x]) _ _ (fun i y hy => by
        have := hp (i + 1) y (by simpa using hy)
        rwa [show pre.length + (i + 1) = (pre ++ [x]).length + i from by simp; omega] at this) (by simpa using hlen) (by simp [hw]) (by simp [h0]) (by simp [h3]) (by simp [h5]) (by simp [h66]) (by simp [h67]) (by simp; exact wrap_i64 (by omega) (by simp at hlen; omega)) (fun t' H' k1 k2 k3 k4 => hE t' H' k1 k2 k3 (by rw [allI, hpv, Bool.true_and]; simpa using k4)) (fun t' H' k1 k2 k3 => hR t' H' k1 (by rw [allI, hpv, Bool.true_and]; simpa using k2) k3)
   · rw [Nat.add_zero, if_neg hi] at hk0
     have hk1 : rs = .fn f c := hk0
     have hk2 : True := trivial
     rw [hk1] at c3
     cases hpv : pv pre.length x with
     | false =>
       rw [hpv] at hcall
       have hF := ai @h5 (ai @h66 (ai @h67 (ai @h68 (ai @hlt (ai @hat (ai @hat2 (ai @hcall (ai @c2 (ai @c3 (ai @hx1 (ai @hi (ai @hk1 @hk2))))))))))))
       refine LTri.round' ?_
       apply rS hC
       · refine gO (by simp [hF, Nd.encL_length, Nd.enc_eq] <;> rfl) ?_
         rfl
       apply sQ
       refine cT (by simp [hF, Nd.encL_length, Nd.enc_eq] <;> rfl) ?_
       apply Tri.skip
       apply sN
       apply sQ
       apply bK
       apply rS hC
       · iterate 6 refine gO (by simp [hF, Nd.encL_length, Nd.enc_eq] <;> rfl) ?_
         rfl
       apply rS hC
       · iterate 5 refine gO (by simp [hF, Nd.encL_length, Nd.enc_eq] <;> rfl) ?_
         rfl
       apply sQ
       apply rS hC
       · iterate 7 refine gO (by simp [hF, Nd.encL_length, Nd.enc_eq] <;> rfl) ?_
         rfl
       refine cF (by simp [hF, Nd.encL_length, Nd.enc_eq] <;> rfl) ?_
       apply Tri.skip
       apply sN
       apply rS hC
       · iterate 4 refine gO (by simp [hF, Nd.encL_length, Nd.enc_eq] <;> rfl) ?_
         rfl
       refine cT (by simp [hF, Nd.encL_length, Nd.enc_eq] <;> rfl) ?_
       apply rS hC
       · refine gO (by simp [hF, Nd.encL_length, Nd.enc_eq] <;> rfl) ?_
         rfl
       apply Tri.ret
       apply bR
       apply sR
       refine inLoop_ret ?_
       exact hR _ _ (by simp [hw]) (by rw [allI, hpv]; rfl) (by simp)
     | true =>
       rw [hpv] at hcall
       have hF := ai @h5 (ai @h66 (ai @h67 (ai @h68 (ai @hlt (ai @hat (ai @hat2 (ai @hcall (ai @c2 (ai @c3 (ai @hx1 (ai @hi (ai @hk1 @hk2))))))))))))
       refine LTri.round' ?_
       apply rS hC
       · refine gO (by simp [hF, Nd.encL_length, Nd.enc_eq] <;> rfl) ?_
         rfl
       apply sQ
       refine Tri.condG (o := ?od2) (b := ?bd2) ?gd2 ?rd2 ?yd2 ?nd2
       case gd2 => simp [hF, Nd.encL_length, Nd.enc_eq] <;> rfl
       case rd2 => rfl
       case yd2 =>
        intro hy2
        apply Tri.skip
        apply sN
        apply sQ
        apply bK
        apply rS hC
        · iterate 6 refine gO (by simp [hF, Nd.encL_length, Nd.enc_eq] <;> rfl) ?_
          rfl
        apply rS hC
        · iterate 5 refine gO (by simp [hF, Nd.encL_length, Nd.enc_eq] <;> rfl) ?_
          rfl
        apply sQ
        apply rS hC
        · iterate 7 refine gO (by simp [hF, Nd.encL_length, Nd.enc_eq] <;> rfl) ?_
          rfl
        refine cF (by simp [hF, Nd.encL_length, Nd.enc_eq] <;> rfl) ?_
        apply Tri.skip
        apply sN
        apply rS hC
        · iterate 4 refine gO (by simp [hF, Nd.encL_length, Nd.enc_eq] <;> rfl) ?_
          rfl
        refine cF (by simp [hF, Nd.encL_length, Nd.enc_eq] <;> rfl) ?_
        apply Tri.skip
        apply bN
        apply sN
        apply rN hC
        · iterate 2 refine gO (by simp [hF, Nd.encL_length, Nd.enc_eq] <;> rfl) ?_
          rfl
        refine inLoop_norm ?_
        refine ih (pre ++ [x]) _ _ (fun i y hy => by
         have := hp (i + 1) y (by simpa using hy)
         rwa [show pre.length + (i + 1) = (pre ++ [x]).length + i from by simp; omega] at this) (by simpa using hlen) (by simp [hw]) (by simp [h0]) (by simp [h3]) (by simp [h5]) (by simp [h66]) (by simp [h67]) (by simp; exact wrap_i64 (by omega) (by simp at hlen; omega)) (fun t' H' k1 k2 k3 k4 => hE t' H' k1 k2 k3 (by rw [allI, hpv, Bool.true_and]; simpa using k4)) (fun t' H' k1 k2 k3 => hR t' H' k1 (by rw [allI, hpv, Bool.true_and]; simpa using k2) k3)
       case nd2 =>
        intro hn2
        exfalso
        simp at hn2

theorem body_40pd {call : CallF} (hC : call.Sound Tryz.prog TT) (x : Nd) (k : Nat) (hk : x.kind = k) (k1 : ¬ (k : Int) < 1) (k2 : ¬ (56 : Int) < k) (k3 : (k : Int) < 57) (tf : FuncId) (tc kl : List V) (rs : V) (lst : Int) (c1 : shCells[k * 5 + 1]? = some (.fn tf tc)) (c2 : shCells[k * 5 + 2]? = some (.isl 1 kl)) (c3 : shCells[k * 5 + 3]? = some rs) (c4 : shCells[k * 5 + 4]? = some (.i .i64 lst)) (hx0 : TT.ext tf = none) (wl : IntKind.i64.wrap (kl.length + lst) = kl.length + lst) (hr : rs = .nilf) (hl2 : ¬ (kl.length : Int) < x.kids.length) (pv : Nat → Nd → Bool) (q : Bool) (hm : ∀ H, call 78 [.ipt 285 [.agg shCells] 0 0, x.enc] H = .val (.b q) H) (hp : ∀ i y, x.kids[i]? = some y → KidP call kl rs pv i y) (hlen : x.kids.length < 1100000) (ht : ∀ H, call tf (.s x.text :: tc) H = .val (.b true) H) (hl : ¬ (x.kids.length : Int) < kl.length + lst)   : EBody Tryz.prog TT 54 [.ipt 285 [.agg shCells] 0 0, x.enc] (fun w => w = .val (.b (allI pv 0 x.kids && q))) := by
 refine en Tryz.f54 rfl rfl (by simp [Tryz.f54]) 99 rfl fun t hw hg => ?_
 have h0 := hg 0 _ rfl
 have h1 := hg 1 _ rfl
 clear hg
 try simp only [Nd.enc_eq] at *
 have hF := ai @h0 (ai @h1 (ai @hk (ai @k1 (ai @k2 (ai @k3 (ai @c1 (ai @c2 (ai @c3 (ai @c4 (ai @hx0 (ai @wl (ai @ht (ai @hl (ai @hl2 (ai @hm @hr)))))))))))))))
 apply rS hC
 · iterate 2 refine gO (by simp [hF, Nd.encL_length] <;> rfl) ?_
   rfl
 iterate 2 apply sQ
 rw [hk] at hm
 refine Tri.freeze_put 3 30 (v := .ipt 3 [.agg [.i .i64 k, .s x.text, .isl 3 (Nd.encL x.kids)]] 0 0) (by simp [fz, fzL, nl, nlL, Nd.encL_nl, h0, h1, hk] <;> rfl) ?_
 apply rN hC
 · iterate 4 refine gO (by simp [hF, Nd.encL_length] <;> rfl) ?_
   iterate 3 refine gW (by simp [wants, hF, Nd.encL_length]) (by simp [hF, Nd.encL_length] <;> rfl) ?_
   refine gO (by simp [hF, Nd.encL_length] <;> rfl) ?_
   rfl
 apply sN
 refine cF (by simp [hF, Nd.encL_length] <;> rfl) ?_
 apply Tri.skip
 apply sN
 apply sQ
 refine Tri.regN (t' := ?t4) (H' := ?H4) TT_ok hC ?e4 ?q4
 case e4 =>
  refine evReg_quiet (t' := ?t4) (by kernel_rfl) ?_ ?r904
  iterate 7 refine QR.val rfl (by simp [hF, Nd.encL_length] <;> rfl) (by rfl) (by simp [hw]) ?_
  exact QR.nil
  case r904 => exact rfl
 apply sN
 iterate 2 apply sQ
 refine Tri.regN (t' := ?t5) (H' := ?H5) TT_ok hC ?e5 ?q5
 case e5 =>
  refine evReg_quiet (t' := ?t5) (by kernel_rfl) ?_ ?r905
  iterate 9 refine QR.val rfl (by simp [hF, Nd.encL_length] <;> rfl) (by rfl) (by simp [hw]) ?_
  iterate 14 refine QR.val (by simp [wants, hF, Nd.encL_length]) (by simp [hF, Nd.encL_length] <;> rfl) (by rfl) (by simp [hw]) ?_
  iterate 2 refine QR.val rfl (by simp [hF, Nd.encL_length] <;> rfl) (by rfl) (by simp [hw]) ?_
  iterate 16 refine QR.val (by simp [wants, hF, Nd.encL_length]) (by simp [hF, Nd.encL_length] <;> rfl) (by rfl) (by simp [hw]) ?_
  refine QR.val rfl (by simp [hF, Nd.encL_length] <;> rfl) (by rfl) (by simp [hw]) ?_
  exact QR.nil
  case r905 => exact rfl
 apply sN
 refine cF (by simp [hF, Nd.encL_length] <;> rfl) ?_
 apply Tri.skip
 apply sN
 apply sQ
 apply rS hC
 · iterate 4 refine gO (by simp [hF, Nd.encL_length] <;> rfl) ?_
   rfl
 apply bK
 refine Tri.loop ?_
 refine loop40p hC k kl rs pv c2 (by first | exact c3 | (rw [hr]; exact hr ▸ c3)) (.ipt 3 [.agg [.i .i64 k, .s x.text, .isl 3 (Nd.encL x.kids)]] 0 0) x.kids [] _ _ (fun i y hy => by rw [List.length_nil, Nat.zero_add]; exact hp i y hy) (by simpa using hlen) (by simp [hw]) (by simp [h0]) (by simp [hk]) (by simp) (by simp) (by simp [Nd.encL_length]) (by simp) ?exit ?ret
 case exit =>
  intro t2 H2 hw h0 h3 hall
  rw [List.length_nil] at hall
  have h4 : True := trivial
  refine inBlk_exit ?_
  apply sN
  apply sQ
  have h4 : True := trivial
  apply rN hC
  · iterate 4 refine gO (by simp [hF, Nd.encL_length, h0, h3, hm] <;> rfl) ?_
    rfl
  apply sN
  apply Tri.ret
  rw [hall]
  refine endsE (by simp [Tryz.f54, h4] <;> rfl) (by rfl) ?_
  rfl
 case ret =>
  intro t2 H2 hw hall h4
  rw [List.length_nil] at hall
  apply bR
  apply sR
  rw [hall]
  refine endsE (by simp [Tryz.f54, h4] <;> rfl) (by rfl) ?_
  rfl
theorem body_40pe {call : CallF} (hC : call.Sound Tryz.prog TT) (x : Nd) (k : Nat) (hk : x.kind = k) (k1 : ¬ (k : Int) < 1) (k2 : ¬ (56 : Int) < k) (k3 : (k : Int) < 57) (tf : FuncId) (tc kl : List V) (rs : V) (lst : Int) (c1 : shCells[k * 5 + 1]? = some (.fn tf tc)) (c2 : shCells[k * 5 + 2]? = some (.isl 1 kl)) (c3 : shCells[k * 5 + 3]? = some rs) (c4 : shCells[k * 5 + 4]? = some (.i .i64 lst)) (hx0 : TT.ext tf = none) (wl : IntKind.i64.wrap (kl.length + lst) = kl.length + lst) (rf : FuncId) (rc : List V) (hr : rs = .fn rf rc) (pv : Nat → Nd → Bool) (q : Bool) (hm : ∀ H, call 78 [.ipt 285 [.agg shCells] 0 0, x.enc] H = .val (.b q) H) (hp : ∀ i y, x.kids[i]? = some y → KidP call kl rs pv i y) (hlen : x.kids.length < 1100000) (ht : ∀ H, call tf (.s x.text :: tc) H = .val (.b true) H) (hl : ¬ (x.kids.length : Int) < kl.length + lst)   : EBody Tryz.prog TT 54 [.ipt 285 [.agg shCells] 0 0, x.enc] (fun w => w = .val (.b (allI pv 0 x.kids && q))) := by
 refine en Tryz.f54 rfl rfl (by simp [Tryz.f54]) 99 rfl fun t hw hg => ?_
 have h0 := hg 0 _ rfl
 have h1 := hg 1 _ rfl
 clear hg
 try simp only [Nd.enc_eq] at *
 have hF := ai @h0 (ai @h1 (ai @hk (ai @k1 (ai @k2 (ai @k3 (ai @c1 (ai @c2 (ai @c3 (ai @c4 (ai @hx0 (ai @wl (ai @ht (ai @hl (ai @hm @hr))))))))))))))
 apply rS hC
 · iterate 2 refine gO (by simp [hF, Nd.encL_length] <;> rfl) ?_
   rfl
 iterate 2 apply sQ
 rw [hk] at hm
 refine Tri.freeze_put 3 30 (v := .ipt 3 [.agg [.i .i64 k, .s x.text, .isl 3 (Nd.encL x.kids)]] 0 0) (by simp [fz, fzL, nl, nlL, Nd.encL_nl, h0, h1, hk] <;> rfl) ?_
 apply rN hC
 · iterate 4 refine gO (by simp [hF, Nd.encL_length] <;> rfl) ?_
   iterate 3 refine gW (by simp [wants, hF, Nd.encL_length]) (by simp [hF, Nd.encL_length] <;> rfl) ?_
   refine gO (by simp [hF, Nd.encL_length] <;> rfl) ?_
   rfl
 apply sN
 refine cF (by simp [hF, Nd.encL_length] <;> rfl) ?_
 apply Tri.skip
 apply sN
 apply sQ
 refine Tri.regN (t' := ?t4) (H' := ?H4) TT_ok hC ?e4 ?q4
 case e4 =>
  refine evReg_quiet (t' := ?t4) (by kernel_rfl) ?_ ?r904
  iterate 7 refine QR.val rfl (by simp [hF, Nd.encL_length] <;> rfl) (by rfl) (by simp [hw]) ?_
  exact QR.nil
  case r904 => exact rfl
 apply sN
 iterate 2 apply sQ
 refine Tri.regN (t' := ?t5) (H' := ?H5) TT_ok hC ?e5 ?q5
 case e5 =>
  refine evReg_quiet (t' := ?t5) (by kernel_rfl) ?_ ?r905
  iterate 9 refine QR.val rfl (by simp [hF, Nd.encL_length] <;> rfl) (by rfl) (by simp [hw]) ?_
  iterate 14 refine QR.val (by simp [wants, hF, Nd.encL_length]) (by simp [hF, Nd.encL_length] <;> rfl) (by rfl) (by simp [hw]) ?_
  iterate 2 refine QR.val rfl (by simp [hF, Nd.encL_length] <;> rfl) (by rfl) (by simp [hw]) ?_
  iterate 6 refine QR.val (by simp [wants, hF, Nd.encL_length]) (by simp [hF, Nd.encL_length] <;> rfl) (by rfl) (by simp [hw]) ?_
  iterate 9 refine QR.off (by simp [wants, hF, Nd.encL_length]) (by simp [hw]) ?_
  refine QR.val (by simp [wants, hF, Nd.encL_length]) (by simp [hF, Nd.encL_length] <;> rfl) (by rfl) (by simp [hw]) ?_
  refine QR.val rfl (by simp [hF, Nd.encL_length] <;> rfl) (by rfl) (by simp [hw]) ?_
  exact QR.nil
  case r905 => exact rfl
 apply sN
 refine cF (by simp [hF, Nd.encL_length] <;> rfl) ?_
 apply Tri.skip
 apply sN
 apply sQ
 apply rS hC
 · iterate 4 refine gO (by simp [hF, Nd.encL_length] <;> rfl) ?_
   rfl
 apply bK
 refine Tri.loop ?_
 refine loop40p hC k kl rs pv c2 (by first | exact c3 | (rw [hr]; exact hr ▸ c3)) (.ipt 3 [.agg [.i .i64 k, .s x.text, .isl 3 (Nd.encL x.kids)]] 0 0) x.kids [] _ _ (fun i y hy => by rw [List.length_nil, Nat.zero_add]; exact hp i y hy) (by simpa using hlen) (by simp [hw]) (by simp [h0]) (by simp [hk]) (by simp) (by simp) (by simp [Nd.encL_length]) (by simp) ?exit ?ret
 case exit =>
  intro t2 H2 hw h0 h3 hall
  rw [List.length_nil] at hall
  have h4 : True := trivial
  refine inBlk_exit ?_
  apply sN
  apply sQ
  have h4 : True := trivial
  apply rN hC
  · iterate 4 refine gO (by simp [hF, Nd.encL_length, h0, h3, hm] <;> rfl) ?_
    rfl
  apply sN
  apply Tri.ret
  rw [hall]
  refine endsE (by simp [Tryz.f54, h4] <;> rfl) (by rfl) ?_
  rfl
 case ret =>
  intro t2 H2 hw hall h4
  rw [List.length_nil] at hall
  apply bR
  apply sR
  rw [hall]
  refine endsE (by simp [Tryz.f54, h4] <;> rfl) (by rfl) ?_
  rfl
theorem loop66p {call : CallF} (hC : call.Sound Tryz.prog TT) (g : FuncId) (cs : List V) (hx0 : TT.ext g = none) (S : List Nd → Heap → Prop) (B : Heap → Prop) (hstep : ∀ x L K, S (x :: L) K → ∃ q K', call g (x.enc :: cs) K = .val (.b q) K' ∧ (q = false → S L K') ∧ (q = true → B K')) {Q : Out → Prop} : ∀ (L pre : List Nd) (t : Tm) (H : Heap), S L H →
    (pre ++ L).length < 1100000 → t.wid = 19 → t.get 0 = .isl 3 (Nd.encL (pre ++ L)) → t.get 1 = .fn g cs → t.get 7 = .i .i64 (pre ++ L).length → t.get 8 = .i .i64 pre.length →
    (∀ t' H', t'.wid = 19 → S [] H' → Q (.exit 0 t' H')) →
    (∀ t' H' (i : Nat), t'.wid = 19 → B H' → t'.get 4 = .i .i64 i → Q (.ret t' H')) →
    LTri Tryz.prog TT (sub [true, false, true, false, false] (bodyOf Tryz.f79)) t H Q := by
 intro L
 induction L with
 | nil =>
   intro pre t H hS hlen hw h0 h1 h7 h8 hE hR
   refine LTri.round' ?_
   apply rS hC
   · refine gO (by simp [h0, h1, h7, h8, Nd.encL_length, Nd.enc_eq, hx0] <;> rfl) ?_
     rfl
   apply sQ
   refine cF (by simp [h0, h1, h7, h8, Nd.encL_length, Nd.enc_eq, hx0] <;> rfl) ?_
   refine Tri.exit ?_
   refine inSeq_exit ?_
   refine inLoop_exit ?_
   exact hE _ _ (by simp [hw]) hS
 | cons x L ih =>
   intro pre t H hS hlen hw h0 h1 h7 h8 hE hR
   have hlt := fin_len pre.length L.length
   have hat := encL_at pre x L
   have hat2 := encL_at2 pre x L
   obtain ⟨q, K', hr, hS2, hB2⟩ := hstep x L H hS
   simp only [Nd.enc_eq] at hr
   refine LTri.round' ?_
   apply rS hC
   · refine gO (by simp [h0, h1, h7, h8, Nd.encL_length, Nd.enc_eq, hx0, hlt, hat, hat2, hr] <;> rfl) ?_
     rfl
   apply sQ
   refine Tri.condG (o := ?o2) (b := ?b2) ?g2 ?r2 ?y2 ?n2
   case g2 => simp [h0, h1, h7, h8, Nd.encL_length, Nd.enc_eq, hx0, hlt, hat, hat2, hr] <;> rfl
   case r2 => rfl
   case y2 =>
    intro hy2
    apply Tri.skip
    apply sN
    apply sQ
    apply bK
    apply rS hC
    · iterate 2 refine gO (by simp [h0, h1, h7, h8, Nd.encL_length, Nd.enc_eq, hx0, hlt, hat, hat2, hr] <;> rfl) ?_
      rfl
    apply rS hC
    · iterate 6 refine gO (by simp [h0, h1, h7, h8, Nd.encL_length, Nd.enc_eq, hx0, hlt, hat, hat2, hr] <;> rfl) ?_
      rfl
    refine Tri.condG (o := ?o5) (b := ?b5) ?g5 ?r5 ?y5 ?n5
    case g5 => simp [h0, h1, h7, h8, Nd.encL_length, Nd.enc_eq, hx0, hlt, hat, hat2, hr] <;> rfl
    case r5 => rfl
    case y5 =>
     intro hy5
     apply rS hC
     · iterate 2 refine gO (by simp [h0, h1, h7, h8, Nd.encL_length, Nd.enc_eq, hx0, hlt, hat, hat2, hr] <;> rfl) ?_
       rfl
     apply Tri.ret
     apply bR
     apply sR
     refine inLoop_ret ?_
     exact hR _ _ pre.length (by simp [hw]) (hB2 (by simpa using hy5)) (by simp)
    case n5 =>
     intro hn5
     apply Tri.skip
     apply bN
     apply sN
     apply rN hC
     · iterate 2 refine gO (by simp [h0, h1, h7, h8, Nd.encL_length, Nd.enc_eq, hx0, hlt, hat, hat2, hr] <;> rfl) ?_
       rfl
     refine inLoop_norm ?_
     refine ih (pre ++ [x]) _ _ (hS2 (by simpa using hn5)) (by simpa using hlen) (by simp [hw]) (by simp [h0]) (by simp [h1]) (by simp [h7]) (by simp; exact wrap_i64 (by omega) (by simp at hlen; omega)) hE hR
   case n2 =>
    intro hn2
    exfalso
    simp at hn2

theorem body_66p {call : CallF} (hC : call.Sound Tryz.prog TT) (l : List Nd) (hlen : l.length < 1100000) (g : FuncId) (cs : List V) (hx0 : TT.ext g = none) (S : List Nd → Heap → Prop) (B : Heap → Prop) (hstep : ∀ x L K, S (x :: L) K → ∃ q K', call g (x.enc :: cs) K = .val (.b q) K' ∧ (q = false → S L K') ∧ (q = true → B K')) (H : Heap) (hS : S l H)  : HBody Tryz.prog TT 79 [.isl 3 (Nd.encL l), .fn g cs] H (fun v H' => ∃ i : Int, v = .i .i64 i ∧ ((i = -1 ∧ S [] H') ∨ (0 ≤ i ∧ B H'))) := by
 refine en Tryz.f79 rfl rfl (by simp [Tryz.f79]) 19 rfl fun t hw hg => ?_
 have h0 := hg 0 _ rfl
 have h1 := hg 1 _ rfl
 clear hg
 skip
 apply rS hC
 · refine gO (by simp [h0, h1, Nd.encL_length] <;> rfl) ?_
   rfl
 apply sQ
 apply rS hC
 · iterate 3 refine gO (by simp [h0, h1, Nd.encL_length] <;> rfl) ?_
   rfl
 apply bK
 refine Tri.loop ?_
 refine loop66p hC g cs hx0 S B hstep l [] _ _ hS (by simpa using hlen) (by simp [hw]) (by simp [h0]) (by simp [h1]) (by simp [Nd.encL_length]) (by simp) ?exit ?ret
 case exit =>
  intro t2 H2 hw hS2
  have h4 : True := trivial
  have hres : ((-1 : Int) = -1 ∧ S [] H2) ∨ ((0 : Int) ≤ -1 ∧ B H2) := .inl ⟨rfl, hS2⟩
  refine inBlk_exit ?_
  apply sN
  apply rS hC
  · refine gO (by simp [h0, h1, Nd.encL_length] <;> rfl) ?_
    rfl
  apply Tri.ret
  exact endsH (by simp [Tryz.f79, h4] <;> rfl) (by rfl) ⟨_, rfl, hres⟩
 case ret =>
  intro t2 H2 i hw hS2 h4
  have hres : ((i : Int) = -1 ∧ S [] H2) ∨ (0 ≤ (i : Int) ∧ B H2) := .inr ⟨by omega, hS2⟩
  apply bR
  apply sR
  exact endsH (by simp [Tryz.f79, h4] <;> rfl) (by rfl) ⟨_, rfl, hres⟩
theorem body_41p {call : CallF} (hC : call.Sound Tryz.prog TT) (l : List Nd) (g : FuncId) (cs : List V) (H K : Heap) (i : Int) (hs : call 79 [.isl 3 (Nd.encL l), .fn g cs] H = .val (.i .i64 i) K)  : HBody Tryz.prog TT 55 [.isl 3 (Nd.encL l), .fn g cs] H (fun v H' => v = .b (decide (0 ≤ i)) ∧ H' = K) := by
 refine en Tryz.f55 rfl rfl (by simp [Tryz.f55]) 9 rfl fun t hw hg => ?_
 have h0 := hg 0 _ rfl
 have h1 := hg 1 _ rfl
 clear hg
 skip
 apply rS hC
 · refine oA ?_
   rfl
 apply rS hC
 · iterate 5 refine oA ?_
   rfl
 apply Tri.ret
 exact endsH (by simp [Tryz.f55] <;> rfl) (by rfl) ⟨rfl, rfl⟩
theorem body_47p {call : CallF} (hC : call.Sound Tryz.prog TT) (x : Nd) (p e b : Nat) (d : Int) (K K2 : Heap) (q : Bool) (hp : ∀ z, (K ++ [z])[p]? = some (some ⟨63, [.ptr b 0], .all⟩)) (he : ∀ z, (K ++ [z])[e]? = some (some ⟨3, [.i .i64 d], .all⟩)) (hlast : ∀ z : Option Blk, (K ++ [z])[K.length]? = some z) (hwr : IntKind.i64.wrap (d + 1) = d + 1)
  (hs : call 37 [x.enc, .ptr b 0, .i .i64 (d + 1)] (K ++ [some ⟨24, [.i .i64 x.kind, .s x.text, .isl 3 (Nd.encL x.kids)], .all⟩]) = .val (.b q) K2)  : HBody Tryz.prog TT 60 [x.enc, .ptr p 0, .ptr e 0] K (fun v H' => v = .b q ∧ H' = K2) := by
 refine en Tryz.f60 rfl rfl (by simp [Tryz.f60]) 10 rfl fun t hw hg => ?_
 have h0 := hg 0 _ rfl
 have h1 := hg 1 _ rfl
 have h2 := hg 2 _ rfl
 clear hg
 try simp only [Nd.enc_eq] at *
 apply rS hC
 · iterate 2 refine gO (by simp [h0, h1, h2, hs, hp, he, hwr, hlast] <;> rfl) ?_
   rfl
 apply rS hC
 · iterate 6 refine gO (by simp [h0, h1, h2, hs, hp, he, hwr, hlast] <;> rfl) ?_
   rfl
 apply Tri.ret
 exact endsH (by simp [Tryz.f60] <;> rfl) (by rfl) ⟨rfl, rfl⟩
theorem rest20pa {call : CallF} (hC : call.Sound Tryz.prog TT) (x : Nd) (b p3 p4 p5 : Nat) (d v : Int) (K : Heap) (t : Tm) (hw : t.wid = 24) (h3 : t.get 3 = .ptr p3 0) (h4 : t.get 4 = .ptr p4 0) (h5 : t.get 5 = .ptr p5 0)
  (g3 : K[p3]? = some (some ⟨24, [.i .i64 x.kind, .s x.text, .isl 3 (Nd.encL x.kids)], .all⟩)) (g4 : K[p4]? = some (some ⟨63, [.ptr b 0], .all⟩)) (g5 : K[p5]? = some (some ⟨3, [.i .i64 d], .all⟩)) (gb : K[b]? = some (some ⟨3, [.i .i64 v], .all⟩))
  (s3 : ∀ c, (K.set b c)[p3]? = some (some ⟨24, [.i .i64 x.kind, .s x.text, .isl 3 (Nd.encL x.kids)], .all⟩)) (s4 : ∀ c, (K.set b c)[p4]? = some (some ⟨63, [.ptr b 0], .all⟩)) (s5 : ∀ c, (K.set b c)[p5]? = some (some ⟨3, [.i .i64 d], .all⟩)) (sb : ∀ c, (K.set b c)[b]? = some c)
  (hwv : IntKind.i64.wrap (v - 1) = v - 1) (hv : v - 1 < 0) : Tri Tryz.prog TT (sub [true] (bodyOf Tryz.f37)) t K (EndsH TT Tryz.f37 fun r H' => r = .b true ∧ H' = K.set b (some ⟨3, [.i .i64 (v - 1)], .all⟩)) := by
 apply sQ
 apply rS hC
 · iterate 6 refine oA ?_
   rfl
 apply rS hC
 · iterate 5 refine oA ?_
   iterate 2 refine oC ?_
   refine oA ?_
   rfl
 refine cT (by simp [h3, h4, h5, g3, g4, g5, gb, s3, s4, s5, sb, hwv, hv] <;> rfl) ?_
 apply rS hC
 · refine oA ?_
   rfl
 apply Tri.ret
 apply sR
 exact endsH (by simp [Tryz.f37] <;> rfl) (by rfl) ⟨rfl, rfl⟩
theorem rest20pb {call : CallF} (hC : call.Sound Tryz.prog TT) (x : Nd) (b p3 p4 p5 : Nat) (d v : Int) (K : Heap) (t : Tm) (hw : t.wid = 24) (h3 : t.get 3 = .ptr p3 0) (h4 : t.get 4 = .ptr p4 0) (h5 : t.get 5 = .ptr p5 0)
  (g3 : K[p3]? = some (some ⟨24, [.i .i64 x.kind, .s x.text, .isl 3 (Nd.encL x.kids)], .all⟩)) (g4 : K[p4]? = some (some ⟨63, [.ptr b 0], .all⟩)) (g5 : K[p5]? = some (some ⟨3, [.i .i64 d], .all⟩)) (gb : K[b]? = some (some ⟨3, [.i .i64 v], .all⟩))
  (s3 : ∀ c, (K.set b c)[p3]? = some (some ⟨24, [.i .i64 x.kind, .s x.text, .isl 3 (Nd.encL x.kids)], .all⟩)) (s4 : ∀ c, (K.set b c)[p4]? = some (some ⟨63, [.ptr b 0], .all⟩)) (s5 : ∀ c, (K.set b c)[p5]? = some (some ⟨3, [.i .i64 d], .all⟩)) (sb : ∀ c, (K.set b c)[b]? = some c)
  (hwv : IntKind.i64.wrap (v - 1) = v - 1) (hv : ¬ v - 1 < 0) (hd : 100 < d) : Tri Tryz.prog TT (sub [true] (bodyOf Tryz.f37)) t K (EndsH TT Tryz.f37 fun r H' => r = .b true ∧ H' = K.set b (some ⟨3, [.i .i64 (v - 1)], .all⟩)) := by
 apply sQ
 apply rS hC
 · iterate 6 refine oA ?_
   rfl
 apply rS hC
 · iterate 5 refine oA ?_
   iterate 2 refine oB ?_
   refine oA ?_
   rfl
 refine cT (by simp [h3, h4, h5, g3, g4, g5, gb, s3, s4, s5, sb, hwv, hv, hd] <;> rfl) ?_
 apply rS hC
 · refine oA ?_
   rfl
 apply Tri.ret
 apply sR
 exact endsH (by simp [Tryz.f37] <;> rfl) (by rfl) ⟨rfl, rfl⟩
theorem rest20pc {call : CallF} (hC : call.Sound Tryz.prog TT) (x : Nd) (b p3 p4 p5 : Nat) (d v : Int) (K : Heap) (t : Tm) (hw : t.wid = 24) (h3 : t.get 3 = .ptr p3 0) (h4 : t.get 4 = .ptr p4 0) (h5 : t.get 5 = .ptr p5 0)
  (g3 : K[p3]? = some (some ⟨24, [.i .i64 x.kind, .s x.text, .isl 3 (Nd.encL x.kids)], .all⟩)) (g4 : K[p4]? = some (some ⟨63, [.ptr b 0], .all⟩)) (g5 : K[p5]? = some (some ⟨3, [.i .i64 d], .all⟩)) (gb : K[b]? = some (some ⟨3, [.i .i64 v], .all⟩))
  (s3 : ∀ c, (K.set b c)[p3]? = some (some ⟨24, [.i .i64 x.kind, .s x.text, .isl 3 (Nd.encL x.kids)], .all⟩)) (s4 : ∀ c, (K.set b c)[p4]? = some (some ⟨63, [.ptr b 0], .all⟩)) (s5 : ∀ c, (K.set b c)[p5]? = some (some ⟨3, [.i .i64 d], .all⟩)) (sb : ∀ c, (K.set b c)[b]? = some c)
  (hwv : IntKind.i64.wrap (v - 1) = v - 1) (hv : ¬ v - 1 < 0) (hd : ¬ 100 < d) (q : Bool) (K2 : Heap) (hs : call 55 [.isl 3 (Nd.encL x.kids), .fn 60 [.ptr p4 0, .ptr p5 0]] (K.set b (some ⟨3, [.i .i64 (v - 1)], .all⟩)) = .val (.b q) K2) : Tri Tryz.prog TT (sub [true] (bodyOf Tryz.f37)) t K (EndsH TT Tryz.f37 fun r H' => r = .b q ∧ H' = K2) := by
 apply sQ
 apply rS hC
 · iterate 6 refine oA ?_
   rfl
 apply rS hC
 · iterate 5 refine oA ?_
   iterate 2 refine oB ?_
   refine oA ?_
   rfl
 refine cF (by simp [h3, h4, h5, g3, g4, g5, gb, s3, s4, s5, sb, hwv, hv, hd, hs] <;> rfl) ?_
 apply Tri.skip
 apply sN
 apply rS hC
 · iterate 5 refine oA ?_
   rfl
 apply Tri.ret
 exact endsH (by simp [Tryz.f37] <;> rfl) (by rfl) ⟨rfl, rfl⟩
theorem body_20 {call : CallF} (hC : call.Sound Tryz.prog TT) (x : Nd) (b : Nat) (d : Int) (H : Heap) (R : V → Heap → Prop) (hrest : ∀ t : Tm, t.wid = 24 → t.get 3 = .ptr H.length 0 → t.get 4 = .ptr (H.length + 1) 0 → t.get 5 = .ptr (H.length + 2) 0 → Tri Tryz.prog TT (sub [true] (bodyOf Tryz.f37)) t (H ++ [some ⟨24, [.i .i64 x.kind, .s x.text, .isl 3 (Nd.encL x.kids)], .all⟩, some ⟨63, [.ptr b 0], .all⟩, some ⟨3, [.i .i64 d], .all⟩]) (EndsH TT Tryz.f37 R))  : HBody Tryz.prog TT 37 [x.enc, .ptr b 0, .i .i64 d] H R := by
 refine en Tryz.f37 rfl rfl (by simp [Tryz.f37]) 24 rfl fun t hw hg => ?_
 have h0 := hg 0 _ rfl
 have h1 := hg 1 _ rfl
 have h2 := hg 2 _ rfl
 clear hg
 try simp only [Nd.enc_eq] at *
 apply rS hC
 · iterate 4 refine gO (by simp [h0, h1, h2, Nat.add_assoc] <;> rfl) ?_
   rfl
 exact hrest _ (by simp [hw]) (by simp) (by simp) (by simp [Nat.add_assoc])
theorem body_14p {call : CallF} (hC : call.Sound Tryz.prog TT) (x : Nd) (q : Bool) (K : Heap) (hs : call 37 [x.enc, .ptr 1 0, .i .i64 1] [some ⟨24, [.i .i64 x.kind, .s x.text, .isl 3 (Nd.encL x.kids)], .all⟩, some ⟨3, [.i .i64 4000], .all⟩] = .val (.b q) K)  : EBody Tryz.prog TT 30 [x.enc] (fun r => r = .val (.b q)) := by
 refine en Tryz.f30 rfl rfl (by simp [Tryz.f30]) 6 rfl fun t hw hg => ?_
 have h0 := hg 0 _ rfl
 clear hg
 try simp only [Nd.enc_eq] at *
 apply rS hC
 · iterate 2 refine oA ?_
   rfl
 apply rS hC
 · iterate 2 refine oA ?_
   rfl
 apply rS hC
 · iterate 3 refine oA ?_
   rfl
 apply Tri.ret
 refine endsE (by simp [Tryz.f30] <;> rfl) (by rfl) ?_
 exact rfl
theorem loop1016 {call : CallF} (hC : call.Sound Tryz.prog TT) (k : Int) (s : List UInt8) {Q : Out → Prop} : ∀ (L pre : List Nd) (n d : Nat) (t : Tm) (H : Heap),
    (∀ x ∈ L, ∀ H, call 16 [x.enc] H = .val (.tup [.i .i64 x.num, .i .i64 x.dep]) H) → n + Nd.numL L < 2200000 → (pre ++ L).length < 1100000 →
    t.wid = 34 → t.get 1 = .ipt 3 [.agg [.i .i64 k, .s s, .isl 3 (Nd.encL (pre ++ L))]] 0 0 → t.get 4 = .i .i64 n → t.get 5 = .i .i64 d → t.get 6 = .i .i64 pre.length →
    (∀ t' H', t'.wid = 34 → t'.get 4 = .i .i64 (n + Nd.numL L : Nat) → t'.get 5 = .i .i64 (Nd.depL L d) → Q (.exit 0 t' H')) →
    LTri Tryz.prog TT (sub [true, true, false, true, false, false] (bodyOf Tryz.f16)) t H Q := by
 intro L
 induction L with
 | nil =>
   intro pre n d t H hrec hn hlen hw h1 h4 h5 h6 hE
   have hF := ai @h1 (ai @h4 (ai @h5 @h6))
   refine LTri.round' ?_
   apply sQ
   apply rS hC
   · iterate 5 refine gO (by simp [hF, Nd.encL_length, Nd.enc_eq] <;> rfl) ?_
     rfl
   refine cF (by simp [hF, Nd.encL_length, Nd.enc_eq] <;> rfl) ?_
   refine Tri.exit ?_
   refine inSeq_exit ?_
   refine inLoop_exit ?_
   exact hE _ _ (by simp [hw]) (by simp [h4, Nd.numL]) (by simp [h5, Nd.depL])
 | cons x L ih =>
   intro pre n d t H hrec hn hlen hw h1 h4 h5 h6 hE
   have hlt := fin_len pre.length L.length
   have hat := encL_at pre x L
   have hat2 := encL_at2 pre x L
   have hr := hrec x (List.mem_cons_self ..)
   have hwn : IntKind.i64.wrap ((n : Int) + x.num) = n + x.num := wrap_i64 (by omega) (by simp only [Nd.numL] at hn; omega)
   have hmx : True := trivial
   simp only [Nd.enc_eq] at hr hat hat2
   have hF := ai @h1 (ai @h4 (ai @h5 (ai @h6 (ai @hlt (ai @hat (ai @hat2 (ai @hr (ai @hwn @hmx))))))))
   refine LTri.round' ?_
   apply sQ
   apply rS hC
   · iterate 5 refine gO (by simp [hF, Nd.encL_length, Nd.enc_eq, Ev.evMax] <;> rfl) ?_
     rfl
   refine Tri.condG (o := ?o2) (b := ?b2) ?g2 ?r2 ?y2 ?n2
   case g2 => simp [hF, Nd.encL_length, Nd.enc_eq, Ev.evMax] <;> rfl
   case r2 => rfl
   case y2 =>
    intro hy2
    apply Tri.skip
    apply sN
    apply sQ
    apply bK
    apply rS hC
    · iterate 11 refine gO (by simp [hF, Nd.encL_length, Nd.enc_eq, Ev.evMax] <;> rfl) ?_
      rfl
    apply rS hC
    · iterate 4 refine gO (by simp [hF, Nd.encL_length, Nd.enc_eq, Ev.evMax] <;> rfl) ?_
      rfl
    apply rN hC
    · iterate 4 refine gO (by simp [hF, Nd.encL_length, Nd.enc_eq, Ev.evMax] <;> rfl) ?_
      rfl
    apply bN
    apply sN
    apply rN hC
    · iterate 3 refine gO (by simp [hF, Nd.encL_length, Nd.enc_eq, Ev.evMax] <;> rfl) ?_
      rfl
    refine inLoop_norm ?_
    refine ih (pre ++ [x]) (n + x.num) (if x.dep > d then x.dep else d) _ _ (fun x hx => hrec x (List.mem_cons_of_mem _ hx)) (by simp only [Nd.numL] at hn; omega) (by simpa using hlen) (by simp [hw]) (by simp [h1]) (by simp [hwn]) (by simp <;> split <;> rfl) (by simp; exact wrap_i64 (by omega) (by simp at hlen; omega)) ?_
    intro t' H' hw' g2 g3
    exact hE t' H' hw' (by rw [g2]; simp only [Nd.numL]; congr 1; push_cast; omega) (by rw [g3]; simp only [Nd.depL])
   case n2 =>
    intro hn2
    exfalso
    simp at hn2

theorem body_1016 {call : CallF} (hC : call.Sound Tryz.prog TT) (x : Nd) (hfit : x.num < 1100000) (hrec : ∀ y ∈ x.kids, ∀ H, call 16 [y.enc] H = .val (.tup [.i .i64 y.num, .i .i64 y.dep]) H)  : EBody Tryz.prog TT 16 [x.enc] (fun r => r = .val (.tup [.i .i64 x.num, .i .i64 x.dep])) := by
 refine en Tryz.f16 rfl rfl (by simp [Tryz.f16]) 34 rfl fun t hw hg => ?_
 have h0 := hg 0 _ rfl
 clear hg
 try simp only [Nd.enc_eq] at h0
 have hnum : x.num = Nd.numL x.kids + 1 := by cases x; rfl
 have hdep : x.dep = Nd.depL x.kids 0 + 1 := by cases x; rfl
 have hdl := Nd.depL_le x.kids 0
 apply rS hC
 · iterate 3 refine gO (by simp [h0, Nd.encL_length] <;> rfl) ?_
   rfl
 apply sQ
 refine Tri.freeze_put 1 30 (v := .ipt 3 [.agg [.i .i64 x.kind, .s x.text, .isl 3 (Nd.encL x.kids)]] 0 0) (by simp [fz, fzL, nl, nlL, Nd.encL_nl, h0] <;> rfl) ?_
 apply rN hC
 · iterate 2 refine gO (by simp [h0, Nd.encL_length] <;> rfl) ?_
   rfl
 apply sN
 apply sQ
 apply rS hC
 · refine gO (by simp [h0, Nd.encL_length] <;> rfl) ?_
   rfl
 apply bK
 refine Tri.loop ?_
 refine loop1016 hC x.kind x.text x.kids [] 1 0 _ _ hrec (by rw [hnum] at hfit; omega) (by simp; have := Nd.numL_length x.kids; omega) (by simp [hw]) (by simp) (by simp) (by simp) (by simp) ?exit
 case exit =>
  intro t2 H2 hw h4 h5
  refine inBlk_exit ?_
  apply sN
  apply rS hC
  · iterate 5 refine gO (by simp [h0, Nd.encL_length, h4, h5] <;> rfl) ?_
    rfl
  apply Tri.ret
  refine endsE (by simp [Tryz.f16, h4, h5] <;> rfl) (by rfl) ?_
  simp [hnum, hdep]
  exact ⟨by omega, wrap_i64 (by omega) (by omega)⟩
theorem loop1033 {call : CallF} (hC : call.Sound Tryz.prog TT) (k : Int) (s : List UInt8) (p : Nd → Bool) {Q : Out → Prop} : ∀ (L pre : List Nd) (t : Tm) (H : Heap),
    (∀ y ∈ L, ∀ H, call 33 [y.enc] H = .val (.b (p y)) H) → (pre ++ L).length < 1100000 →
    t.wid = 21 → t.get 1 = .ipt 3 [.agg [.i .i64 k, .s s, .isl 3 (Nd.encL (pre ++ L))]] 0 0 → t.get 3 = .i .i64 pre.length →
    (∀ t' H', t'.wid = 21 → (L.all fun y => p y) = true → t'.get 1 = .ipt 3 [.agg [.i .i64 k, .s s, .isl 3 (Nd.encL (pre ++ L))]] 0 0 → Q (.exit 0 t' H')) → (∀ t' H', (L.all fun y => p y) = false → t'.get 2 = .b false → Q (.ret t' H')) →
    LTri Tryz.prog TT (sub [true, true, false, true, false, false] (bodyOf Tryz.f33)) t H Q := by
 intro L
 induction L with
 | nil =>
   intro pre t H hrec hlen hw h1 hI hE hR
   refine LTri.round' ?_
   apply sQ
   apply rS hC
   · iterate 5 refine gO (by simp [h1, hI, Nd.encL_length, Nd.enc_eq] <;> rfl) ?_
     rfl
   refine cF (by simp [h1, hI, Nd.encL_length, Nd.enc_eq] <;> rfl) ?_
   refine Tri.exit ?_
   refine inSeq_exit ?_
   refine inLoop_exit ?_
   exact hE _ _ (by simp [hw]) (by simp) (by simp [h1])
 | cons x L ih =>
   intro pre t H hrec hlen hw h1 hI hE hR
   have hlt := fin_len pre.length L.length
   have hat := encL_at pre x L
   have hat2 := encL_at2 pre x L
   cases hq : (p x) with
   | false =>
     have hr := (fun H => by rw [hrec x (List.mem_cons_self ..), hq] : ∀ H, call 33 [x.enc] H = .val (.b _) H)
     simp only [Nd.enc_eq] at hr hat hat2
     have hF := ai @h1 (ai @hI (ai @hlt (ai @hat (ai @hat2 @hr))))
     refine LTri.round' ?_
     apply sQ
     apply rS hC
     · iterate 5 refine gO (by simp [hF, Nd.encL_length, Nd.enc_eq] <;> rfl) ?_
       rfl
     refine cT (by simp [hF, Nd.encL_length, Nd.enc_eq] <;> rfl) ?_
     apply Tri.skip
     apply sN
     apply sQ
     apply bK
     apply rS hC
     · iterate 7 refine gO (by simp [hF, Nd.encL_length, Nd.enc_eq] <;> rfl) ?_
       rfl
     refine cT (by simp [hF, Nd.encL_length, Nd.enc_eq] <;> rfl) ?_
     apply rS hC
     · refine gO (by simp [hF, Nd.encL_length, Nd.enc_eq] <;> rfl) ?_
       rfl
     apply Tri.ret
     apply bR
     apply sR
     refine inLoop_ret ?_
     exact hR _ _ (by simp [hq]) (by simp)
   | true =>
     have hr := (fun H => by rw [hrec x (List.mem_cons_self ..), hq] : ∀ H, call 33 [x.enc] H = .val (.b _) H)
     simp only [Nd.enc_eq] at hr hat hat2
     have hF := ai @h1 (ai @hI (ai @hlt (ai @hat (ai @hat2 @hr))))
     refine LTri.round' ?_
     apply sQ
     apply rS hC
     · iterate 5 refine gO (by simp [hF, Nd.encL_length, Nd.enc_eq] <;> rfl) ?_
       rfl
     refine Tri.condG (o := ?oy2) (b := ?by2) ?gy2 ?ry2 ?yy2 ?ny2
     case gy2 => simp [hF, Nd.encL_length, Nd.enc_eq] <;> rfl
     case ry2 => rfl
     case yy2 =>
      intro hy2
      apply Tri.skip
      apply sN
      apply sQ
      apply bK
      apply rS hC
      · iterate 7 refine gO (by simp [hF, Nd.encL_length, Nd.enc_eq] <;> rfl) ?_
        rfl
      refine cF (by simp [hF, Nd.encL_length, Nd.enc_eq] <;> rfl) ?_
      apply Tri.skip
      apply bN
      apply sN
      apply rN hC
      · iterate 3 refine gO (by simp [hF, Nd.encL_length, Nd.enc_eq] <;> rfl) ?_
        rfl
      refine inLoop_norm ?_
      refine ih (pre ++ [x]) _ _ (fun y hy => hrec y (List.mem_cons_of_mem _ hy)) (by simpa using hlen) (by simp [hw]) (by simp [h1]) (by simp; exact wrap_i64 (by omega) (by simp at hlen; omega)) (fun t' H' k1 k2 k3 => hE t' H' k1 (by simp [hq, k2]) (by simpa using k3)) (fun t' H' k1 k2 => hR t' H' (by simp [hq, k1]) k2)
     case ny2 =>
      intro hn2
      exfalso
      simp at hn2

theorem loop1103 {call : CallF} (hC : call.Sound Tryz.prog TT) (k : Int) (s : List UInt8) (p : Nd → Bool) {Q : Out → Prop} : ∀ (L pre : List Nd) (t : Tm) (H : Heap),
    (∀ y ∈ L, ∀ H, call 103 [y.enc] H = .val (.b (p y)) H) → (pre ++ L).length < 1100000 →
    t.wid = 39 → t.get 1 = .ipt 3 [.agg [.i .i64 k, .s s, .isl 3 (Nd.encL (pre ++ L))]] 0 0 → t.get 3 = .i .i64 pre.length →
    (∀ t' H', t'.wid = 39 → (L.all fun y => p y) = true → t'.get 1 = .ipt 3 [.agg [.i .i64 k, .s s, .isl 3 (Nd.encL (pre ++ L))]] 0 0 → Q (.exit 0 t' H')) → (∀ t' H', (L.all fun y => p y) = false → t'.get 2 = .b false → Q (.ret t' H')) →
    LTri Tryz.prog TT (sub [true, false, true, false, false, true, false, false] (bodyOf Tryz.f103)) t H Q := by
 intro L
 induction L with
 | nil =>
   intro pre t H hrec hlen hw h1 hI hE hR
   refine LTri.round' ?_
   apply sQ
   apply rS hC
   · iterate 5 refine gO (by simp [h1, hI, Nd.encL_length, Nd.enc_eq] <;> rfl) ?_
     rfl
   refine cF (by simp [h1, hI, Nd.encL_length, Nd.enc_eq] <;> rfl) ?_
   refine Tri.exit ?_
   refine inSeq_exit ?_
   refine inLoop_exit ?_
   exact hE _ _ (by simp [hw]) (by simp) (by simp [h1])
 | cons x L ih =>
   intro pre t H hrec hlen hw h1 hI hE hR
   have hlt := fin_len pre.length L.length
   have hat := encL_at pre x L
   have hat2 := encL_at2 pre x L
   cases hq : (p x) with
   | false =>
     have hr := (fun H => by rw [hrec x (List.mem_cons_self ..), hq] : ∀ H, call 103 [x.enc] H = .val (.b _) H)
     simp only [Nd.enc_eq] at hr hat hat2
     have hF := ai @h1 (ai @hI (ai @hlt (ai @hat (ai @hat2 @hr))))
     refine LTri.round' ?_
     apply sQ
     apply rS hC
     · iterate 5 refine gO (by simp [hF, Nd.encL_length, Nd.enc_eq] <;> rfl) ?_
       rfl
     refine cT (by simp [hF, Nd.encL_length, Nd.enc_eq] <;> rfl) ?_
     apply Tri.skip
     apply sN
     apply sQ
     apply bK
     apply rS hC
     · iterate 7 refine gO (by simp [hF, Nd.encL_length, Nd.enc_eq] <;> rfl) ?_
       rfl
     refine cT (by simp [hF, Nd.encL_length, Nd.enc_eq] <;> rfl) ?_
     apply rS hC
     · refine gO (by simp [hF, Nd.encL_length, Nd.enc_eq] <;> rfl) ?_
       rfl
     apply Tri.ret
     apply bR
     apply sR
     refine inLoop_ret ?_
     exact hR _ _ (by simp [hq]) (by simp)
   | true =>
     have hr := (fun H => by rw [hrec x (List.mem_cons_self ..), hq] : ∀ H, call 103 [x.enc] H = .val (.b _) H)
     simp only [Nd.enc_eq] at hr hat hat2
     have hF := ai @h1 (ai @hI (ai @hlt (ai @hat (ai @hat2 @hr))))
     refine LTri.round' ?_
     apply sQ
     apply rS hC
     · iterate 5 refine gO (by simp [hF, Nd.encL_length, Nd.enc_eq] <;> rfl) ?_
       rfl
     refine Tri.condG (o := ?oy2) (b := ?by2) ?gy2 ?ry2 ?yy2 ?ny2
     case gy2 => simp [hF, Nd.encL_length, Nd.enc_eq] <;> rfl
     case ry2 => rfl
     case yy2 =>
      intro hy2
      apply Tri.skip
      apply sN
      apply sQ
      apply bK
      apply rS hC
      · iterate 7 refine gO (by simp [hF, Nd.encL_length, Nd.enc_eq] <;> rfl) ?_
        rfl
      refine cF (by simp [hF, Nd.encL_length, Nd.enc_eq] <;> rfl) ?_
      apply Tri.skip
      apply bN
      apply sN
      apply rN hC
      · iterate 3 refine gO (by simp [hF, Nd.encL_length, Nd.enc_eq] <;> rfl) ?_
        rfl
      refine inLoop_norm ?_
      refine ih (pre ++ [x]) _ _ (fun y hy => hrec y (List.mem_cons_of_mem _ hy)) (by simpa using hlen) (by simp [hw]) (by simp [h1]) (by simp; exact wrap_i64 (by omega) (by simp at hlen; omega)) (fun t' H' k1 k2 k3 => hE t' H' k1 (by simp [hq, k2]) (by simpa using k3)) (fun t' H' k1 k2 => hR t' H' (by simp [hq, k1]) k2)
     case ny2 =>
      intro hn2
      exfalso
      simp at hn2

theorem loop1084s {call : CallF} (hC : call.Sound Tryz.prog TT) (k : Int) (s : List UInt8) {Q : Out → Prop} : ∀ (L pre : List Nd) (t : Tm) (H : Heap), (pre ++ L).length < 1100000 →
    t.wid = 90 → t.get 1 = .ipt 3 [.agg [.i .i64 k, .s s, .isl 3 (Nd.encL (pre ++ L))]] 0 0 → t.get 7 = .i .i64 pre.length →
    (∀ t' H', t'.wid = 90 → (L.all fun y => y.kind != 25) = true → t'.get 1 = .ipt 3 [.agg [.i .i64 k, .s s, .isl 3 (Nd.encL (pre ++ L))]] 0 0 → Q (.exit 3 t' H')) → (∀ t' H', (L.all fun y => y.kind != 25) = false → t'.get 2 = .b false → Q (.ret t' H')) →
    LTri Tryz.prog TT (sub [true, false, true, false, true, true, true, true, true, true, true, false, true, false, false] (bodyOf Tryz.f84)) t H Q := by
 intro L
 induction L with
 | nil =>
   intro pre t H hlen hw h1 hI hE hR
   refine LTri.round' ?_
   apply sQ
   apply rS hC
   · iterate 5 refine gO (by simp [h1, hI, Nd.encL_length, Nd.enc_eq] <;> rfl) ?_
     rfl
   refine cF (by simp [h1, hI, Nd.encL_length, Nd.enc_eq] <;> rfl) ?_
   refine Tri.exit ?_
   refine inSeq_exit ?_
   refine inLoop_exit ?_
   exact hE _ _ (by simp [hw]) (by simp) (by simp [h1])
 | cons x L ih =>
   intro pre t H hlen hw h1 hI hE hR
   have hlt := fin_len pre.length L.length
   have hat := encL_at pre x L
   have hat2 := encL_at2 pre x L
   cases hq : (x.kind != 25) with
   | false =>
     have hr := (by simpa using hq : (x.kind == 25) = true)
     simp only [Nd.enc_eq] at hr hat hat2
     have hF := ai @h1 (ai @hI (ai @hlt (ai @hat (ai @hat2 @hr))))
     refine LTri.round' ?_
     apply sQ
     apply rS hC
     · iterate 5 refine gO (by simp [hF, Nd.encL_length, Nd.enc_eq] <;> rfl) ?_
       rfl
     refine cT (by simp [hF, Nd.encL_length, Nd.enc_eq] <;> rfl) ?_
     apply Tri.skip
     apply sN
     apply sQ
     apply bK
     apply rS hC
     · iterate 7 refine gO (by simp [hF, Nd.encL_length, Nd.enc_eq] <;> rfl) ?_
       rfl
     refine cT (by simp [hF, Nd.encL_length, Nd.enc_eq] <;> rfl) ?_
     apply rS hC
     · refine gO (by simp [hF, Nd.encL_length, Nd.enc_eq] <;> rfl) ?_
       rfl
     apply Tri.ret
     apply bR
     apply sR
     refine inLoop_ret ?_
     exact hR _ _ (by simp [hq]) (by simp)
   | true =>
     have hr := (by simpa using hq : (x.kind == 25) = false)
     simp only [Nd.enc_eq] at hr hat hat2
     have hF := ai @h1 (ai @hI (ai @hlt (ai @hat (ai @hat2 @hr))))
     refine LTri.round' ?_
     apply sQ
     apply rS hC
     · iterate 5 refine gO (by simp [hF, Nd.encL_length, Nd.enc_eq] <;> rfl) ?_
       rfl
     refine Tri.condG (o := ?oy2) (b := ?by2) ?gy2 ?ry2 ?yy2 ?ny2
     case gy2 => simp [hF, Nd.encL_length, Nd.enc_eq] <;> rfl
     case ry2 => rfl
     case yy2 =>
      intro hy2
      apply Tri.skip
      apply sN
      apply sQ
      apply bK
      apply rS hC
      · iterate 7 refine gO (by simp [hF, Nd.encL_length, Nd.enc_eq] <;> rfl) ?_
        rfl
      refine cF (by simp [hF, Nd.encL_length, Nd.enc_eq] <;> rfl) ?_
      apply Tri.skip
      apply bN
      apply sN
      apply rN hC
      · iterate 3 refine gO (by simp [hF, Nd.encL_length, Nd.enc_eq] <;> rfl) ?_
        rfl
      refine inLoop_norm ?_
      refine ih (pre ++ [x]) _ _ (by simpa using hlen) (by simp [hw]) (by simp [h1]) (by simp; exact wrap_i64 (by omega) (by simp at hlen; omega)) (fun t' H' k1 k2 k3 => hE t' H' k1 (by simp [hq, k2]) (by simpa using k3)) (fun t' H' k1 k2 => hR t' H' (by simp [hq, k1]) k2)
     case ny2 =>
      intro hn2
      exfalso
      simp at hn2

end Go.Ev
