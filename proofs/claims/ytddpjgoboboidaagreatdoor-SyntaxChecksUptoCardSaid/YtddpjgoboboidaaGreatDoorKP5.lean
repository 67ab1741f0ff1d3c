/- Walks over the text of a node in the reference, the whole. Walks over the rounds of the parts. Too many parts, or too deep: what the count returns, for every tree. Walks over the look at all parts of a tree. What the small functions return, for every tree. What the looks at texts return. The rows of the kinds, each with its look. What the looks return, for every node. Check returns what some look at each node and the count say; parts of well-formed trees are well-formed. What the reference returns of trees. -/
import Derived.Test.YtddpjgoboboidaaGreatDoorKQ5
import Derived.Test.YtddpjgoboboidaaGreatDoorKT3
import Derived.Test.YtddpjgoboboidaaGreatDoorKQ1
import Derived.Test.YtddpjgoboboidaaGreatDoorKEvIter2
import Derived.Test.YtddpjgoboboidaaGreatDoorKAt2
import Derived.Test.YtddpjgoboboidaaGreatDoorKPlE
namespace Go.Ev
open Go Go.Proofs
set_option linter.unusedSimpArgs false
set_option linter.unusedVariables false
set_option maxRecDepth 100000
theorem body_1080u {call : CallF} (hC : call.Sound Tryz.prog TT) (x : Nd) (hk2 : (x.kind == 2) = true) (q : Bool) (hq : ∀ H, call 97 [.s x.text] H = .val (.b q) H)  : EBody Tryz.prog TT 80 [x.enc] (fun w => w = .val (.b q)) := by
 refine en Tryz.f80 rfl rfl (by simp [Tryz.f80]) 135 rfl fun t hw hg => ?_
 have h0 := hg 0 _ rfl
 clear hg
 try simp only [Nd.enc_eq] at *
 have hF := ai @h0 (ai @hk2 @hq)
 apply rS hC
 · iterate 2 refine oA ?_
   rfl
 iterate 2 apply sQ
 refine Tri.freeze_put 1 30 (v := .ipt 3 [.agg [.i .i64 x.kind, .s x.text, .isl 3 (Nd.encL x.kids)]] 0 0) (by simp [fz, fzL, nl, nlL, Nd.encL_nl, h0] <;> rfl) ?_
 apply rN hC
 · iterate 2 refine oA ?_
   rfl
 apply sN
 apply bK
 apply rS hC
 · iterate 2 refine oA ?_
   rfl
 refine cT (by simp [hF] <;> rfl) ?_
 apply rS hC
 · iterate 4 refine oA ?_
   rfl
 apply Tri.ret
 apply bR
 apply sR
 refine endsE (by simp [Tryz.f80] <;> rfl) (by rfl) ?_
 first
  | rfl
  | simp [*]
theorem body_1080i {call : CallF} (hC : call.Sound Tryz.prog TT) (x : Nd) (hk2 : (x.kind == 2) = false) (hid : idK x.kind = true) (q : Bool) (hq : ∀ H, call 98 [.s x.text] H = .val (.b q) H)  : EBody Tryz.prog TT 80 [x.enc] (fun w => w = .val (.b q)) := by
 refine en Tryz.f80 rfl rfl (by simp [Tryz.f80]) 135 rfl fun t hw hg => ?_
 have h0 := hg 0 _ rfl
 clear hg
 try simp only [Nd.enc_eq] at *
 have hF := ai @h0 (ai @hk2 @hq)
 apply rS hC
 · iterate 2 refine oA ?_
   rfl
 iterate 2 apply sQ
 refine Tri.freeze_put 1 30 (v := .ipt 3 [.agg [.i .i64 x.kind, .s x.text, .isl 3 (Nd.encL x.kids)]] 0 0) (by simp [fz, fzL, nl, nlL, Nd.encL_nl, h0] <;> rfl) ?_
 apply rN hC
 · iterate 2 refine oA ?_
   rfl
 apply sN
 apply bK
 apply rS hC
 · iterate 2 refine oA ?_
   rfl
 refine cF (by simp [hF] <;> rfl) ?_
 apply sQ
 refine sw1080 hC (by simp [hw]) (k := x.kind) (by simp [hF]) ?cn4_5
 case cn4_5 =>
  intro t3 hw3 q15 q1 q9
  simp [hF] at q1 q9
  rw [hid] at q15
  clear hw
  have hw := hw3
  apply sN
  refine cT (by simp [hF, q1, q9, q15] <;> rfl) ?_
  apply rS hC
  · iterate 4 refine oA ?_
    rfl
  apply Tri.ret
  apply bR
  apply sR
  refine endsE (by simp [Tryz.f80] <;> rfl) (by rfl) ?_
  first
   | rfl
   | simp [*]
theorem body_1080d {call : CallF} (hC : call.Sound Tryz.prog TT) (x : Nd) (hk2 : (x.kind == 2) = false) (hid : idK x.kind = false) (hk : (x.kind == 12) = true) (hcs : x.text.length < 100000000) (hcall : ∀ y : List UInt8, ∀ H, call 98 [.s y] H = .val (.b (isIdR y)) H) (hq : ∀ H, call 98 [.s x.text] H = .val (.b (isIdR x.text)) H)  : EBody Tryz.prog TT 80 [x.enc] (fun w => w = .val (.b (dotG x.text (x.text.length + 1 + 1) 0))) := by
 refine en Tryz.f80 rfl rfl (by simp [Tryz.f80]) 135 rfl fun t hw hg => ?_
 have h0 := hg 0 _ rfl
 clear hg
 try simp only [Nd.enc_eq] at *
 have hF := ai @h0 (ai @hk2 (ai @hk @hq))
 apply rS hC
 · iterate 2 refine oA ?_
   rfl
 iterate 2 apply sQ
 refine Tri.freeze_put 1 30 (v := .ipt 3 [.agg [.i .i64 x.kind, .s x.text, .isl 3 (Nd.encL x.kids)]] 0 0) (by simp [fz, fzL, nl, nlL, Nd.encL_nl, h0] <;> rfl) ?_
 apply rN hC
 · iterate 2 refine oA ?_
   rfl
 apply sN
 apply bK
 apply rS hC
 · iterate 2 refine oA ?_
   rfl
 refine cF (by simp [hF] <;> rfl) ?_
 apply sQ
 refine sw1080 hC (by simp [hw]) (k := x.kind) (by simp [hF]) ?cn4_5
 case cn4_5 =>
  intro t3 hw3 q15 q1 q9
  simp [hF] at q1 q9
  rw [hid] at q15
  clear hw
  have hw := hw3
  apply sN
  refine cF (by simp [hF, q1, q9, q15] <;> rfl) ?_
  apply rS hC
  · iterate 2 refine oA ?_
    rfl
  refine cT (by simp [hF, q1, q9, q15] <;> rfl) ?_
  apply sQ
  apply rS hC
  · refine oA ?_
    rfl
  apply bK
  refine Tri.loop ?_
  refine loop1080 hC x.kind x.text (Nd.encL x.kids) hcs hcall (x.text.length + 1) 0 _ _ (by omega) (by simp [hw]) (by simp [hF, q1]) (by simp) ?exit ?ret
  case exit =>
   intro t2 H2 hw hr h1
   have h4 : True := trivial
   refine inBlk_exit ?_
   apply sN
   apply rS hC
   · iterate 4 refine oA ?_
     rfl
   apply Tri.ret
   apply bR
   apply sR
   first
    | rw [hr]
      refine endsE (by simp [Tryz.f80, h4] <;> rfl) (by rfl) ?_
      rfl
    | refine endsE (by simp [Tryz.f80, h4] <;> rfl) (by rfl) ?_
      rfl
  case ret =>
   intro t2 H2 h4
   apply bR
   apply sR
   apply bR
   apply sR
   first
    | rw [hr]
      refine endsE (by simp [Tryz.f80, h4] <;> rfl) (by rfl) ?_
      rfl
    | refine endsE (by simp [Tryz.f80, h4] <;> rfl) (by rfl) ?_
      rfl
theorem body_1080l {call : CallF} (hC : call.Sound Tryz.prog TT) (x : Nd) (hk2 : (x.kind == 2) = false) (hid : idK x.kind = false) (hk12 : (x.kind == 12) = false) (hk : (x.kind == 19) = true) (hk20 : (x.kind == 20) = false) (r : List Tk ⊕ (Int × Int)) (a : Int) (hsc : ∀ H, call 99 [.s x.text] H = .val (.tup [scL r, .i .i64 a, .i .i64 (scC r)]) H)  : EBody Tryz.prog TT 80 [x.enc] (fun w => w = .val (.b (tokB 3 x.text r))) := by
 refine en Tryz.f80 rfl rfl (by simp [Tryz.f80]) 135 rfl fun t hw hg => ?_
 have h0 := hg 0 _ rfl
 clear hg
 try simp only [Nd.enc_eq] at *
 have hF := ai @h0 (ai @hk2 (ai @hk12 (ai @hk (ai @hk20 @hsc))))
 apply rS hC
 · iterate 2 refine oA ?_
   rfl
 iterate 2 apply sQ
 refine Tri.freeze_put 1 30 (v := .ipt 3 [.agg [.i .i64 x.kind, .s x.text, .isl 3 (Nd.encL x.kids)]] 0 0) (by simp [fz, fzL, nl, nlL, Nd.encL_nl, h0] <;> rfl) ?_
 apply rN hC
 · iterate 2 refine oA ?_
   rfl
 apply sN
 apply bK
 apply rS hC
 · iterate 2 refine oA ?_
   rfl
 refine cF (by simp [hF] <;> rfl) ?_
 apply sQ
 refine sw1080 hC (by simp [hw]) (k := x.kind) (by simp [hF]) ?cn4_5
 case cn4_5 =>
  intro t3 hw3 q15 q1 q9
  simp [hF] at q1 q9
  rw [hid] at q15
  clear hw
  have hw := hw3
  apply sN
  refine cF (by simp [hF, q1, q9, q15] <;> rfl) ?_
  apply rS hC
  · iterate 2 refine oA ?_
    rfl
  refine cF (by simp [hF, q1, q9, q15] <;> rfl) ?_
  apply sQ
  apply rS hC
  · iterate 2 refine oA ?_
    rfl
  refine cT (by simp [hF, q1, q9, q15] <;> rfl) ?_
  apply Tri.skip
  apply sN
  refine cT (by simp [hF, q1, q9, q15] <;> rfl) ?_
  apply rS hC
  · iterate 10 refine oA ?_
    rfl
  apply rS hC
  · refine oA ?_
    rfl
  apply sQ
  apply rS hC
  · iterate 3 refine oA ?_
    rfl
  refine cF (by simp [hF, q1, q9, q15] <;> rfl) ?_
  apply Tri.skip
  apply sN
  refine tok1080 hC (k0 := x.kind) (k := 3) (s := x.text) (l := Nd.encL x.kids) (r := r) (by simp [hw]) (by simp [q1]) (by simp) (by simp) (by simp) ?cr32_16
  case cr32_16 =>
   intro t5 H5 h4
   apply bR
   apply sR
   refine endsE (by simp [Tryz.f80, h4] <;> rfl) (by rfl) ?_
   rfl
theorem body_1080f {call : CallF} (hC : call.Sound Tryz.prog TT) (x : Nd) (hk2 : (x.kind == 2) = false) (hid : idK x.kind = false) (hk12 : (x.kind == 12) = false) (hk : (x.kind == 19) = false) (hk20 : (x.kind == 20) = true) (r : List Tk ⊕ (Int × Int)) (a : Int) (hsc : ∀ H, call 99 [.s x.text] H = .val (.tup [scL r, .i .i64 a, .i .i64 (scC r)]) H)  : EBody Tryz.prog TT 80 [x.enc] (fun w => w = .val (.b (tokB 4 x.text r))) := by
 refine en Tryz.f80 rfl rfl (by simp [Tryz.f80]) 135 rfl fun t hw hg => ?_
 have h0 := hg 0 _ rfl
 clear hg
 try simp only [Nd.enc_eq] at *
 have hF := ai @h0 (ai @hk2 (ai @hk12 (ai @hk (ai @hk20 @hsc))))
 apply rS hC
 · iterate 2 refine oA ?_
   rfl
 iterate 2 apply sQ
 refine Tri.freeze_put 1 30 (v := .ipt 3 [.agg [.i .i64 x.kind, .s x.text, .isl 3 (Nd.encL x.kids)]] 0 0) (by simp [fz, fzL, nl, nlL, Nd.encL_nl, h0] <;> rfl) ?_
 apply rN hC
 · iterate 2 refine oA ?_
   rfl
 apply sN
 apply bK
 apply rS hC
 · iterate 2 refine oA ?_
   rfl
 refine cF (by simp [hF] <;> rfl) ?_
 apply sQ
 refine sw1080 hC (by simp [hw]) (k := x.kind) (by simp [hF]) ?cn4_5
 case cn4_5 =>
  intro t3 hw3 q15 q1 q9
  simp [hF] at q1 q9
  rw [hid] at q15
  clear hw
  have hw := hw3
  apply sN
  refine cF (by simp [hF, q1, q9, q15] <;> rfl) ?_
  apply rS hC
  · iterate 2 refine oA ?_
    rfl
  refine cF (by simp [hF, q1, q9, q15] <;> rfl) ?_
  apply sQ
  apply rS hC
  · iterate 2 refine oA ?_
    rfl
  refine cF (by simp [hF, q1, q9, q15] <;> rfl) ?_
  apply rN hC
  · iterate 2 refine oA ?_
    rfl
  apply sN
  refine cT (by simp [hF, q1, q9, q15] <;> rfl) ?_
  apply rS hC
  · iterate 10 refine oA ?_
    rfl
  apply rS hC
  · refine oA ?_
    rfl
  apply sQ
  apply rS hC
  · iterate 3 refine oA ?_
    rfl
  refine cT (by simp [hF, q1, q9, q15] <;> rfl) ?_
  apply rN hC
  · refine oA ?_
    rfl
  apply sN
  refine tok1080 hC (k0 := x.kind) (k := 4) (s := x.text) (l := Nd.encL x.kids) (r := r) (by simp [hw]) (by simp [q1]) (by simp) (by simp) (by simp) ?cr32_18
  case cr32_18 =>
   intro t5 H5 h4
   apply bR
   apply sR
   refine endsE (by simp [Tryz.f80, h4] <;> rfl) (by rfl) ?_
   rfl
theorem body_1080v {call : CallF} (hC : call.Sound Tryz.prog TT) (x : Nd) (hk2 : (x.kind == 2) = false) (hid : idK x.kind = false) (hk12 : (x.kind == 12) = false) (hk19 : (x.kind == 19) = false) (hk20 : (x.kind == 20) = false) (hk : (x.kind == 21) = true) (q : Bool) (hq : ∀ H, call 47 [.s x.text] H = .val (.b q) H)  : EBody Tryz.prog TT 80 [x.enc] (fun w => w = .val (.b q)) := by
 refine en Tryz.f80 rfl rfl (by simp [Tryz.f80]) 135 rfl fun t hw hg => ?_
 have h0 := hg 0 _ rfl
 clear hg
 try simp only [Nd.enc_eq] at *
 have hF := ai @h0 (ai @hk2 (ai @hk12 (ai @hk19 (ai @hk20 (ai @hk @hq)))))
 apply rS hC
 · iterate 2 refine oA ?_
   rfl
 iterate 2 apply sQ
 refine Tri.freeze_put 1 30 (v := .ipt 3 [.agg [.i .i64 x.kind, .s x.text, .isl 3 (Nd.encL x.kids)]] 0 0) (by simp [fz, fzL, nl, nlL, Nd.encL_nl, h0] <;> rfl) ?_
 apply rN hC
 · iterate 2 refine oA ?_
   rfl
 apply sN
 apply bK
 apply rS hC
 · iterate 2 refine oA ?_
   rfl
 refine cF (by simp [hF] <;> rfl) ?_
 apply sQ
 refine sw1080 hC (by simp [hw]) (k := x.kind) (by simp [hF]) ?cn4_5
 case cn4_5 =>
  intro t3 hw3 q15 q1 q9
  simp [hF] at q1 q9
  rw [hid] at q15
  clear hw
  have hw := hw3
  apply sN
  refine cF (by simp [hF, q1, q9, q15] <;> rfl) ?_
  apply rS hC
  · iterate 2 refine oA ?_
    rfl
  refine cF (by simp [hF, q1, q9, q15] <;> rfl) ?_
  apply sQ
  apply rS hC
  · iterate 2 refine oA ?_
    rfl
  refine cF (by simp [hF, q1, q9, q15] <;> rfl) ?_
  apply rN hC
  · iterate 2 refine oA ?_
    rfl
  apply sN
  refine cF (by simp [hF, q1, q9, q15] <;> rfl) ?_
  apply sQ
  apply rS hC
  · iterate 2 refine oA ?_
    rfl
  refine cT (by simp [hF, q1, q9, q15] <;> rfl) ?_
  apply Tri.skip
  apply sN
  refine cT (by simp [hF, q1, q9, q15] <;> rfl) ?_
  apply rS hC
  · iterate 4 refine oA ?_
    rfl
  apply Tri.ret
  apply bR
  apply sR
  refine endsE (by simp [Tryz.f80] <;> rfl) (by rfl) ?_
  first
   | rfl
   | simp [*]
theorem body_1080w {call : CallF} (hC : call.Sound Tryz.prog TT) (x : Nd) (hk2 : (x.kind == 2) = false) (hid : idK x.kind = false) (hk12 : (x.kind == 12) = false) (hk19 : (x.kind == 19) = false) (hk20 : (x.kind == 20) = false) (hk21 : (x.kind == 21) = false) (hk : (x.kind == 4) = true) (q : Bool) (hq : ∀ H, call 47 [.s x.text] H = .val (.b q) H)  : EBody Tryz.prog TT 80 [x.enc] (fun w => w = .val (.b q)) := by
 refine en Tryz.f80 rfl rfl (by simp [Tryz.f80]) 135 rfl fun t hw hg => ?_
 have h0 := hg 0 _ rfl
 clear hg
 try simp only [Nd.enc_eq] at *
 have hF := ai @h0 (ai @hk2 (ai @hk12 (ai @hk19 (ai @hk20 (ai @hk21 (ai @hk @hq))))))
 apply rS hC
 · iterate 2 refine oA ?_
   rfl
 iterate 2 apply sQ
 refine Tri.freeze_put 1 30 (v := .ipt 3 [.agg [.i .i64 x.kind, .s x.text, .isl 3 (Nd.encL x.kids)]] 0 0) (by simp [fz, fzL, nl, nlL, Nd.encL_nl, h0] <;> rfl) ?_
 apply rN hC
 · iterate 2 refine oA ?_
   rfl
 apply sN
 apply bK
 apply rS hC
 · iterate 2 refine oA ?_
   rfl
 refine cF (by simp [hF] <;> rfl) ?_
 apply sQ
 refine sw1080 hC (by simp [hw]) (k := x.kind) (by simp [hF]) ?cn4_5
 case cn4_5 =>
  intro t3 hw3 q15 q1 q9
  simp [hF] at q1 q9
  rw [hid] at q15
  clear hw
  have hw := hw3
  apply sN
  refine cF (by simp [hF, q1, q9, q15] <;> rfl) ?_
  apply rS hC
  · iterate 2 refine oA ?_
    rfl
  refine cF (by simp [hF, q1, q9, q15] <;> rfl) ?_
  apply sQ
  apply rS hC
  · iterate 2 refine oA ?_
    rfl
  refine cF (by simp [hF, q1, q9, q15] <;> rfl) ?_
  apply rN hC
  · iterate 2 refine oA ?_
    rfl
  apply sN
  refine cF (by simp [hF, q1, q9, q15] <;> rfl) ?_
  apply sQ
  apply rS hC
  · iterate 2 refine oA ?_
    rfl
  refine cF (by simp [hF, q1, q9, q15] <;> rfl) ?_
  apply rN hC
  · iterate 2 refine oA ?_
    rfl
  apply sN
  refine cT (by simp [hF, q1, q9, q15] <;> rfl) ?_
  apply rS hC
  · iterate 4 refine oA ?_
    rfl
  apply Tri.ret
  apply bR
  apply sR
  refine endsE (by simp [Tryz.f80] <;> rfl) (by rfl) ?_
  first
   | rfl
   | simp [*]
theorem body_1080b {call : CallF} (hC : call.Sound Tryz.prog TT) (x : Nd) (hk2 : (x.kind == 2) = false) (hid : idK x.kind = false) (hk12 : (x.kind == 12) = false) (hk19 : (x.kind == 19) = false) (hk20 : (x.kind == 20) = false) (hk21 : (x.kind == 21) = false) (hk4 : (x.kind == 4) = false) (hk : (x.kind == 22) = true)  : EBody Tryz.prog TT 80 [x.enc] (fun w => w = .val (.b ((x.text == [116, 114, 117, 101]) || (x.text == [102, 97, 108, 115, 101])))) := by
 refine en Tryz.f80 rfl rfl (by simp [Tryz.f80]) 135 rfl fun t hw hg => ?_
 have h0 := hg 0 _ rfl
 clear hg
 try simp only [Nd.enc_eq] at *
 have hF := ai @h0 (ai @hk2 (ai @hk12 (ai @hk19 (ai @hk20 (ai @hk21 (ai @hk4 @hk))))))
 apply rS hC
 · iterate 2 refine oA ?_
   rfl
 iterate 2 apply sQ
 refine Tri.freeze_put 1 30 (v := .ipt 3 [.agg [.i .i64 x.kind, .s x.text, .isl 3 (Nd.encL x.kids)]] 0 0) (by simp [fz, fzL, nl, nlL, Nd.encL_nl, h0] <;> rfl) ?_
 apply rN hC
 · iterate 2 refine oA ?_
   rfl
 apply sN
 apply bK
 apply rS hC
 · iterate 2 refine oA ?_
   rfl
 refine cF (by simp [hF] <;> rfl) ?_
 apply sQ
 refine sw1080 hC (by simp [hw]) (k := x.kind) (by simp [hF]) ?cn4_5
 case cn4_5 =>
  intro t3 hw3 q15 q1 q9
  simp [hF] at q1 q9
  rw [hid] at q15
  clear hw
  have hw := hw3
  apply sN
  refine cF (by simp [hF, q1, q9, q15] <;> rfl) ?_
  apply rS hC
  · iterate 2 refine oA ?_
    rfl
  refine cF (by simp [hF, q1, q9, q15] <;> rfl) ?_
  apply sQ
  apply rS hC
  · iterate 2 refine oA ?_
    rfl
  refine cF (by simp [hF, q1, q9, q15] <;> rfl) ?_
  apply rN hC
  · iterate 2 refine oA ?_
    rfl
  apply sN
  refine cF (by simp [hF, q1, q9, q15] <;> rfl) ?_
  apply sQ
  apply rS hC
  · iterate 2 refine oA ?_
    rfl
  refine cF (by simp [hF, q1, q9, q15] <;> rfl) ?_
  apply rN hC
  · iterate 2 refine oA ?_
    rfl
  apply sN
  refine cF (by simp [hF, q1, q9, q15] <;> rfl) ?_
  apply rS hC
  · iterate 2 refine oA ?_
    rfl
  refine cT (by simp [hF, q1, q9, q15] <;> rfl) ?_
  apply sQ
  cases hB1 : (x.text == [116, 114, 117, 101] : Bool)
  case false =>
   apply rN hC
   · iterate 4 refine oA ?_
     iterate 3 refine oB ?_
     iterate 2 refine oA ?_
     rfl
   apply sN
   apply Tri.ret
   apply bR
   apply sR
   refine endsE (by simp [Tryz.f80] <;> rfl) (by rfl) ?_
   first
    | rfl
    | simp [*]
  case true =>
   apply rN hC
   · iterate 4 refine oA ?_
     iterate 3 refine oC ?_
     iterate 2 refine oA ?_
     rfl
   apply sN
   apply Tri.ret
   apply bR
   apply sR
   refine endsE (by simp [Tryz.f80] <;> rfl) (by rfl) ?_
   first
    | rfl
    | simp [*]
theorem body_1080n {call : CallF} (hC : call.Sound Tryz.prog TT) (x : Nd) (hk2 : (x.kind == 2) = false) (hid : idK x.kind = false) (hk12 : (x.kind == 12) = false) (hk19 : (x.kind == 19) = false) (hk20 : (x.kind == 20) = false) (hk21 : (x.kind == 21) = false) (hk4 : (x.kind == 4) = false) (hk22 : (x.kind == 22) = false) (hk : (x.kind == 36) = true)  : EBody Tryz.prog TT 80 [x.enc] (fun w => w = .val (.b ((x.text == [110, 111, 116]) || (x.text == [45])))) := by
 refine en Tryz.f80 rfl rfl (by simp [Tryz.f80]) 135 rfl fun t hw hg => ?_
 have h0 := hg 0 _ rfl
 clear hg
 try simp only [Nd.enc_eq] at *
 have hF := ai @h0 (ai @hk2 (ai @hk12 (ai @hk19 (ai @hk20 (ai @hk21 (ai @hk4 (ai @hk22 @hk)))))))
 apply rS hC
 · iterate 2 refine oA ?_
   rfl
 iterate 2 apply sQ
 refine Tri.freeze_put 1 30 (v := .ipt 3 [.agg [.i .i64 x.kind, .s x.text, .isl 3 (Nd.encL x.kids)]] 0 0) (by simp [fz, fzL, nl, nlL, Nd.encL_nl, h0] <;> rfl) ?_
 apply rN hC
 · iterate 2 refine oA ?_
   rfl
 apply sN
 apply bK
 apply rS hC
 · iterate 2 refine oA ?_
   rfl
 refine cF (by simp [hF] <;> rfl) ?_
 apply sQ
 refine sw1080 hC (by simp [hw]) (k := x.kind) (by simp [hF]) ?cn4_5
 case cn4_5 =>
  intro t3 hw3 q15 q1 q9
  simp [hF] at q1 q9
  rw [hid] at q15
  clear hw
  have hw := hw3
  apply sN
  refine cF (by simp [hF, q1, q9, q15] <;> rfl) ?_
  apply rS hC
  · iterate 2 refine oA ?_
    rfl
  refine cF (by simp [hF, q1, q9, q15] <;> rfl) ?_
  apply sQ
  apply rS hC
  · iterate 2 refine oA ?_
    rfl
  refine cF (by simp [hF, q1, q9, q15] <;> rfl) ?_
  apply rN hC
  · iterate 2 refine oA ?_
    rfl
  apply sN
  refine cF (by simp [hF, q1, q9, q15] <;> rfl) ?_
  apply sQ
  apply rS hC
  · iterate 2 refine oA ?_
    rfl
  refine cF (by simp [hF, q1, q9, q15] <;> rfl) ?_
  apply rN hC
  · iterate 2 refine oA ?_
    rfl
  apply sN
  refine cF (by simp [hF, q1, q9, q15] <;> rfl) ?_
  apply rS hC
  · iterate 2 refine oA ?_
    rfl
  refine cF (by simp [hF, q1, q9, q15] <;> rfl) ?_
  apply rS hC
  · iterate 2 refine oA ?_
    rfl
  refine cT (by simp [hF, q1, q9, q15] <;> rfl) ?_
  apply sQ
  cases hB1 : (x.text == [110, 111, 116] : Bool)
  case false =>
   apply rN hC
   · iterate 4 refine oA ?_
     iterate 3 refine oB ?_
     iterate 2 refine oA ?_
     rfl
   apply sN
   apply Tri.ret
   apply bR
   apply sR
   refine endsE (by simp [Tryz.f80] <;> rfl) (by rfl) ?_
   first
    | rfl
    | simp [*]
  case true =>
   apply rN hC
   · iterate 4 refine oA ?_
     iterate 3 refine oC ?_
     iterate 2 refine oA ?_
     rfl
   apply sN
   apply Tri.ret
   apply bR
   apply sR
   refine endsE (by simp [Tryz.f80] <;> rfl) (by rfl) ?_
   first
    | rfl
    | simp [*]
theorem body_1080o {call : CallF} (hC : call.Sound Tryz.prog TT) (x : Nd) (hk2 : (x.kind == 2) = false) (hid : idK x.kind = false) (hk12 : (x.kind == 12) = false) (hk19 : (x.kind == 19) = false) (hk20 : (x.kind == 20) = false) (hk21 : (x.kind == 21) = false) (hk4 : (x.kind == 4) = false) (hk22 : (x.kind == 22) = false) (hk36 : (x.kind == 36) = false) (hk : (x.kind == 37) = true) (l : List V) (ho : ∀ H, call 101 [] H = .val (.isl 1 l) H) (q : Bool) (hq : ∀ H, call 100 [.isl 1 l, .s x.text] H = .val (.b q) H)  : EBody Tryz.prog TT 80 [x.enc] (fun w => w = .val (.b q)) := by
 refine en Tryz.f80 rfl rfl (by simp [Tryz.f80]) 135 rfl fun t hw hg => ?_
 have h0 := hg 0 _ rfl
 clear hg
 try simp only [Nd.enc_eq] at *
 have hF := ai @h0 (ai @hk2 (ai @hk12 (ai @hk19 (ai @hk20 (ai @hk21 (ai @hk4 (ai @hk22 (ai @hk36 (ai @hk (ai @ho @hq))))))))))
 apply rS hC
 · iterate 2 refine oA ?_
   rfl
 iterate 2 apply sQ
 refine Tri.freeze_put 1 30 (v := .ipt 3 [.agg [.i .i64 x.kind, .s x.text, .isl 3 (Nd.encL x.kids)]] 0 0) (by simp [fz, fzL, nl, nlL, Nd.encL_nl, h0] <;> rfl) ?_
 apply rN hC
 · iterate 2 refine oA ?_
   rfl
 apply sN
 apply bK
 apply rS hC
 · iterate 2 refine oA ?_
   rfl
 refine cF (by simp [hF] <;> rfl) ?_
 apply sQ
 refine sw1080 hC (by simp [hw]) (k := x.kind) (by simp [hF]) ?cn4_5
 case cn4_5 =>
  intro t3 hw3 q15 q1 q9
  simp [hF] at q1 q9
  rw [hid] at q15
  clear hw
  have hw := hw3
  apply sN
  refine cF (by simp [hF, q1, q9, q15] <;> rfl) ?_
  apply rS hC
  · iterate 2 refine oA ?_
    rfl
  refine cF (by simp [hF, q1, q9, q15] <;> rfl) ?_
  apply sQ
  apply rS hC
  · iterate 2 refine oA ?_
    rfl
  refine cF (by simp [hF, q1, q9, q15] <;> rfl) ?_
  apply rN hC
  · iterate 2 refine oA ?_
    rfl
  apply sN
  refine cF (by simp [hF, q1, q9, q15] <;> rfl) ?_
  apply sQ
  apply rS hC
  · iterate 2 refine oA ?_
    rfl
  refine cF (by simp [hF, q1, q9, q15] <;> rfl) ?_
  apply rN hC
  · iterate 2 refine oA ?_
    rfl
  apply sN
  refine cF (by simp [hF, q1, q9, q15] <;> rfl) ?_
  apply rS hC
  · iterate 2 refine oA ?_
    rfl
  refine cF (by simp [hF, q1, q9, q15] <;> rfl) ?_
  apply rS hC
  · iterate 2 refine oA ?_
    rfl
  refine cF (by simp [hF, q1, q9, q15] <;> rfl) ?_
  apply rS hC
  · iterate 2 refine oA ?_
    rfl
  refine cT (by simp [hF, q1, q9, q15] <;> rfl) ?_
  apply sQ
  refine Tri.regN (t' := ?t23) (H' := ?H23) TT_ok hC ?e23 ?q23
  case e23 =>
   refine evReg_quiet (t' := ?t23) (by kernel_rfl) ?_ ?r923
   iterate 5 refine QR.val rfl (by simp [hF, q1, q9, q15] <;> rfl) (by rfl) (by simp [hw]) ?_
   exact QR.nil
   case r923 => exact rfl
  apply sN
  apply Tri.ret
  apply bR
  apply sR
  refine endsE (by simp [Tryz.f80] <;> rfl) (by rfl) ?_
  first
   | rfl
   | simp [*]
theorem body_1080z {call : CallF} (hC : call.Sound Tryz.prog TT) (x : Nd) (hk2 : (x.kind == 2) = false) (hid : idK x.kind = false) (hk12 : (x.kind == 12) = false) (hk19 : (x.kind == 19) = false) (hk20 : (x.kind == 20) = false) (hk21 : (x.kind == 21) = false) (hk4 : (x.kind == 4) = false) (hk22 : (x.kind == 22) = false) (hk36 : (x.kind == 36) = false) (hk : (x.kind == 37) = false)  : EBody Tryz.prog TT 80 [x.enc] (fun w => w = .val (.b (x.text == []))) := by
 refine en Tryz.f80 rfl rfl (by simp [Tryz.f80]) 135 rfl fun t hw hg => ?_
 have h0 := hg 0 _ rfl
 clear hg
 try simp only [Nd.enc_eq] at *
 have hF := ai @h0 (ai @hk2 (ai @hk12 (ai @hk19 (ai @hk20 (ai @hk21 (ai @hk4 (ai @hk22 (ai @hk36 @hk))))))))
 apply rS hC
 · iterate 2 refine oA ?_
   rfl
 iterate 2 apply sQ
 refine Tri.freeze_put 1 30 (v := .ipt 3 [.agg [.i .i64 x.kind, .s x.text, .isl 3 (Nd.encL x.kids)]] 0 0) (by simp [fz, fzL, nl, nlL, Nd.encL_nl, h0] <;> rfl) ?_
 apply rN hC
 · iterate 2 refine oA ?_
   rfl
 apply sN
 apply bK
 apply rS hC
 · iterate 2 refine oA ?_
   rfl
 refine cF (by simp [hF] <;> rfl) ?_
 apply sQ
 refine sw1080 hC (by simp [hw]) (k := x.kind) (by simp [hF]) ?cn4_5
 case cn4_5 =>
  intro t3 hw3 q15 q1 q9
  simp [hF] at q1 q9
  rw [hid] at q15
  clear hw
  have hw := hw3
  apply sN
  refine cF (by simp [hF, q1, q9, q15] <;> rfl) ?_
  apply rS hC
  · iterate 2 refine oA ?_
    rfl
  refine cF (by simp [hF, q1, q9, q15] <;> rfl) ?_
  apply sQ
  apply rS hC
  · iterate 2 refine oA ?_
    rfl
  refine cF (by simp [hF, q1, q9, q15] <;> rfl) ?_
  apply rN hC
  · iterate 2 refine oA ?_
    rfl
  apply sN
  refine cF (by simp [hF, q1, q9, q15] <;> rfl) ?_
  apply sQ
  apply rS hC
  · iterate 2 refine oA ?_
    rfl
  refine cF (by simp [hF, q1, q9, q15] <;> rfl) ?_
  apply rN hC
  · iterate 2 refine oA ?_
    rfl
  apply sN
  refine cF (by simp [hF, q1, q9, q15] <;> rfl) ?_
  apply rS hC
  · iterate 2 refine oA ?_
    rfl
  refine cF (by simp [hF, q1, q9, q15] <;> rfl) ?_
  apply rS hC
  · iterate 2 refine oA ?_
    rfl
  refine cF (by simp [hF, q1, q9, q15] <;> rfl) ?_
  apply rS hC
  · iterate 2 refine oA ?_
    rfl
  refine cF (by simp [hF, q1, q9, q15] <;> rfl) ?_
  apply Tri.skip
  apply bN
  apply sN
  apply rS hC
  · iterate 4 refine oA ?_
    rfl
  apply Tri.ret
  refine endsE (by simp [Tryz.f80] <;> rfl) (by rfl) ?_
  first
   | rfl
   | simp [*]
theorem EndsH.mono {T : Tab} {fn : Func} {R R' : V → Heap → Prop} {o : Out} (h : EndsH T fn R o) (hr : ∀ v H, R v H → R' v H) : EndsH T fn R' o := by
  cases o <;> simp only [EndsH] at h ⊢
  · obtain ⟨v, h1, h2⟩ := h; exact ⟨v, hr _ _ h1, h2⟩
  · obtain ⟨v, h1, h2⟩ := h; exact ⟨v, hr _ _ h1, h2⟩
theorem HBody.mono {F : FuncId} {vs : List V} {H : Heap} {R R' : V → Heap → Prop} (h : HBody Tryz.prog TT F vs H R) (hr : ∀ v H, R v H → R' v H) : HBody Tryz.prog TT F vs H R' := by
  obtain ⟨fn, c, h1, h2, h3, o, h4, h5⟩ := h
  exact ⟨fn, c, h1, h2, h3, o, h4.mono hr, h5⟩
abbrev cell (v : Int) : Option Blk := some ⟨3, [.i .i64 v], .all⟩
def Down (b : Nat) (H H' : Heap) (v : Int) (n : Nat) : Prop := H.length ≤ H'.length ∧ (∀ k, k < H.length → k ≠ b → H'[k]? = H[k]?) ∧ ∃ v' : Int, H'[b]? = some (cell v') ∧ v' ≤ v ∧ v - n ≤ v'
def LargeIn (k : Nat) (x : Nd) (b : Nat) (d v : Int) (H : Heap) : Prop := x.num = k ∧ x.num < NT ∧ b < H.length ∧ H[b]? = some (cell v) ∧ -1000000000 ≤ v - x.num ∧ v ≤ 1000000000 ∧ 0 ≤ d ∧ d + x.num ≤ 1000000000
def fitL (d v : Int) (x : Nd) : Prop := (x.num : Int) ≤ v ∧ d + x.dep ≤ 101
theorem depL_le_iff : ∀ (l : List Nd) (d m : Nat), Nd.depL l d ≤ m ↔ d ≤ m ∧ ∀ y ∈ l, y.dep ≤ m
  | [], d, m => by simp [Nd.depL]
  | x :: l, d, m => by
    simp only [Nd.depL, depL_le_iff l, List.mem_cons, forall_eq_or_imp]
    by_cases h : x.dep > d
    · rw [if_pos h]
      constructor
      · rintro ⟨h1, h2⟩; exact ⟨by omega, h1, h2⟩
      · rintro ⟨h1, h2, h3⟩; exact ⟨h2, h3⟩
    · rw [if_neg h]
      constructor
      · rintro ⟨h1, h2⟩; exact ⟨h1, by omega, h2⟩
      · rintro ⟨h1, h2, h3⟩; exact ⟨h1, h3⟩
theorem dep_eq (x : Nd) : x.dep = Nd.depL x.kids 0 + 1 := by cases x; rfl
theorem dep_kid {x y : Nd} (h : y ∈ x.kids) : y.dep + 1 ≤ x.dep := by
  have := ((depL_le_iff x.kids 0 _).1 (Nat.le_refl _)).2 y h
  have := dep_eq x
  omega
theorem dep_bound {x : Nd} {d : Int} (hd : 0 ≤ d) (hle : ¬ 100 < d) (h : ∀ y ∈ x.kids, d + 1 + y.dep ≤ 101) : d + x.dep ≤ 101 := by
  have h1 : Nd.depL x.kids 0 ≤ (100 - d).toNat := (depL_le_iff _ _ _).2 ⟨Nat.zero_le _, fun y hy => by have := h y hy; omega⟩
  have := dep_eq x
  omega
theorem numL_suffix : ∀ (pre L : List Nd), Nd.numL (pre ++ L) = Nd.numL pre + Nd.numL L
  | [], L => by simp [Nd.numL]
  | x :: pre, L => by simp only [List.cons_append, Nd.numL, numL_suffix pre L]; omega
theorem sp20p : ∃ g, SpecOK Tryz.prog TT 37 g ∧ ∀ x b d v H, LargeIn x.num x b d v H → ∃ q H', Down b H H' v x.num ∧ (q = false → fitL d v x ∧ H'[b]? = some (cell (v - x.num))) ∧ (q = true → ¬ fitL d v x) ∧ g [x.enc, .ptr b 0, .i .i64 d] H = .val (.b q) H' := by
  obtain ⟨g, hg, hs⟩ := spec_heap TT_ok 37 (fun k vs H => ∃ x b d v, LargeIn k x b d v H ∧ vs = [x.enc, .ptr b 0, .i .i64 d])
    (fun vs H r H' => ∃ q : Bool, r = .b q ∧ ∀ x b d v, LargeIn x.num x b d v H → vs = [x.enc, .ptr b 0, .i .i64 d] → Down b H H' v x.num ∧ (q = false → fitL d v x ∧ H'[b]? = some (cell (v - x.num))) ∧ (q = true → ¬ fitL d v x)) (by
    rintro k vs H ⟨x, b, d, v, ⟨rfl, hx, hbl, hb, hv1, hv2, hd1, hd2⟩, rfl⟩ g hg hrec
    have hnum := x.num_eq
    have hlen := Nd.numL_length x.kids
    have hN : NT = 1090000 := rfl
    have fin : ∀ (q : Bool) H', (Down b H H' v x.num ∧ (q = false → fitL d v x ∧ H'[b]? = some (cell (v - x.num))) ∧ (q = true → ¬ fitL d v x)) → ∀ y c e w, LargeIn y.num y c e w H → [x.enc, V.ptr b 0, V.i .i64 d] = [y.enc, .ptr c 0, .i .i64 e] → Down c H H' w y.num ∧ (q = false → fitL e w y ∧ H'[c]? = some (cell (w - y.num))) ∧ (q = true → ¬ fitL e w y) := by
      intro q H' hD y c e w hL he
      simp only [List.cons.injEq, V.ptr.injEq, V.i.injEq, true_and, and_true] at he
      obtain ⟨e1, e2, e3⟩ := he
      have := Nd.enc_inj _ _ e1
      subst this e2 e3
      have h4 := hL.2.2.2.1
      rw [hb] at h4
      simp only [cell, Option.some.injEq, Blk.mk.injEq, List.cons.injEq, V.i.injEq, and_true, true_and] at h4
      subst h4
      exact hD
    -- the heap behind the boxes
    obtain ⟨K, hK⟩ : ∃ K, H ++ [some ⟨24, [.i .i64 x.kind, .s x.text, .isl 3 (Nd.encL x.kids)], .all⟩, some ⟨63, [.ptr b 0], .all⟩, some ⟨3, [.i .i64 d], .all⟩] = K := ⟨_, rfl⟩
    have kl : K.length = H.length + 3 := by rw [← hK]; simp
    have kold : ∀ n, n < H.length → K[n]? = H[n]? := fun n hn => by rw [← hK, List.getElem?_append_left hn]
    have g3 : K[H.length]? = some (some ⟨24, [.i .i64 x.kind, .s x.text, .isl 3 (Nd.encL x.kids)], .all⟩) := by rw [← hK, List.getElem?_append_right (Nat.le_refl _)]; simp
    have g4 : K[H.length + 1]? = some (some ⟨63, [.ptr b 0], .all⟩) := by rw [← hK, List.getElem?_append_right (by omega)]; simp
    have g5 : K[H.length + 2]? = some (some ⟨3, [.i .i64 d], .all⟩) := by rw [← hK, List.getElem?_append_right (by omega)]; simp
    have gb : K[b]? = some (cell v) := by rw [kold b hbl]; exact hb
    have sne : ∀ (c : Option Blk) n, n ≠ b → (K.set b c)[n]? = K[n]? := fun c n hn => by rw [List.getElem?_set]; rw [if_neg (by omega)]
    have sb : ∀ c : Option Blk, (K.set b c)[b]? = some c := fun c => by rw [List.getElem?_set]; simp; omega
    have hwv : IntKind.i64.wrap (v - 1) = v - 1 := wrap_i64 (by omega) (by omega)
    have dset : Down b H (K.set b (cell (v - 1))) v x.num := ⟨by simp; omega, fun n hn hne => by rw [sne _ _ hne, kold n hn], v - 1, sb _, by omega, by omega⟩
    have hdep : 1 ≤ x.dep := by rw [dep_eq]; omega
    have key : HBody Tryz.prog TT 37 [x.enc, .ptr b 0, .i .i64 d] H (fun r H' => ∃ q : Bool, r = .b q ∧ Down b H H' v x.num ∧ (q = false → fitL d v x ∧ H'[b]? = some (cell (v - x.num))) ∧ (q = true → ¬ fitL d v x)) := by
      by_cases hneg : v - 1 < 0
      · refine body_20 n0 x b d H _ fun t hw h3 h4 h5 => ?_
        rw [hK]
        refine (rest20pa n0 x b H.length (H.length + 1) (H.length + 2) d v K t hw h3 h4 h5 g3 g4 g5 gb (fun c => by rw [sne _ _ (by omega)]; exact g3) (fun c => by rw [sne _ _ (by omega)]; exact g4) (fun c => by rw [sne _ _ (by omega)]; exact g5) sb hwv hneg).mono fun o ho => ho.mono ?_
        rintro r H' ⟨rfl, rfl⟩
        exact ⟨true, rfl, dset, (fun h => by cases h), fun _ hf => by have := hf.1; omega⟩
      by_cases hdeep : 100 < d
      · refine body_20 n0 x b d H _ fun t hw h3 h4 h5 => ?_
        rw [hK]
        refine (rest20pb n0 x b H.length (H.length + 1) (H.length + 2) d v K t hw h3 h4 h5 g3 g4 g5 gb (fun c => by rw [sne _ _ (by omega)]; exact g3) (fun c => by rw [sne _ _ (by omega)]; exact g4) (fun c => by rw [sne _ _ (by omega)]; exact g5) sb hwv hneg hdeep).mono fun o ho => ho.mono ?_
        rintro r H' ⟨rfl, rfl⟩
        exact ⟨true, rfl, dset, (fun h => by cases h), fun _ hf => by have := hf.2; omega⟩
      -- the closure on a kid
      obtain ⟨g47, k47, s47⟩ := spec_heap TT_ok 60 (fun _ vs J => ∃ (y : Nd) (w : Int), y ∈ x.kids ∧ vs = [y.enc, .ptr (H.length + 1) 0, .ptr (H.length + 2) 0] ∧ H.length + 3 ≤ J.length ∧ J[H.length + 1]? = some (some ⟨63, [.ptr b 0], .all⟩) ∧ J[H.length + 2]? = some (some ⟨3, [.i .i64 d], .all⟩) ∧ J[b]? = some (cell w) ∧ -1000000000 ≤ w - y.num ∧ w ≤ 1000000000)
        (fun vs J r J' => ∃ q : Bool, r = .b q ∧ ∀ (y : Nd) (w : Int), vs = [y.enc, .ptr (H.length + 1) 0, .ptr (H.length + 2) 0] → J[b]? = some (cell w) → Down b J J' w y.num ∧ (q = false → fitL (d + 1) w y ∧ J'[b]? = some (cell (w - y.num))) ∧ (q = true → ¬ fitL (d + 1) w y)) (by
        rintro _ vs J ⟨y, w, hy, rfl, hJ, j1, j2, jb, w1, w2⟩ g' _ _
        have hyn := Nd.num_mem hy
        have hJb : b < J.length := by omega
        have hin : LargeIn y.num y b (d + 1) w (J ++ [some ⟨24, [.i .i64 y.kind, .s y.text, .isl 3 (Nd.encL y.kids)], .all⟩]) :=
          ⟨rfl, by omega, by simp; omega, by rw [List.getElem?_append_left hJb]; exact jb, w1, w2, by omega, by omega⟩
        obtain ⟨r, J2, ⟨q, rfl, hD⟩, hc⟩ := hrec y.num (by omega) _ _ ⟨y, b, d + 1, w, hin, rfl⟩
        have hD' := hD y b (d + 1) w hin rfl
        refine (body_47p (ws n0 hg) y (H.length + 1) (H.length + 2) b d J J2 q (fun z => by rw [List.getElem?_append_left (by omega)]; exact j1) (fun z => by rw [List.getElem?_append_left (by omega)]; exact j2) (fun z => by simp) (wrap_i64 (by omega) (by omega)) (by rw [w_here]; exact hc)).mono ?_
        rintro r H' ⟨rfl, rfl⟩
        refine ⟨q, rfl, fun y' w' he hw' => ?_⟩
        simp only [List.cons.injEq, and_true] at he
        have := Nd.enc_inj _ _ he
        subst this
        rw [jb] at hw'
        simp only [cell, Option.some.injEq, Blk.mk.injEq, List.cons.injEq, V.i.injEq, and_true, true_and] at hw'
        subst hw'
        obtain ⟨⟨d1, d2, d3⟩, d4⟩ := hD'
        refine ⟨⟨by simp at d1; omega, fun n hn hne => ?_, d3⟩, d4⟩
        rw [d2 n (by simp; omega) hne, List.getElem?_append_left hn]) 1
      -- the heap ahead of the search
      let K1 := K.set b (cell (v - 1))
      have k1l : K1.length = H.length + 3 := by simp [K1, kl]
      let S : List Nd → Heap → Prop := fun L J => (∃ pre, x.kids = pre ++ L ∧ ∀ y ∈ pre, d + 1 + y.dep ≤ 101) ∧ K1.length ≤ J.length ∧ (∀ n, n < K1.length → n ≠ b → J[n]? = K1[n]?) ∧ J[b]? = some (cell (v - 1 - (Nd.numL x.kids - Nd.numL L : Int))) ∧ (Nd.numL x.kids - Nd.numL L : Int) ≤ v - 1
      let B : Heap → Prop := fun J => K1.length ≤ J.length ∧ (∀ n, n < K1.length → n ≠ b → J[n]? = K1[n]?) ∧ (∃ w : Int, J[b]? = some (cell w) ∧ w ≤ v - 1 ∧ v - 1 - Nd.numL x.kids ≤ w) ∧ ¬ ((Nd.numL x.kids : Int) ≤ v - 1 ∧ ∀ y ∈ x.kids, d + 1 + y.dep ≤ 101)
      have hS0 : S x.kids K1 := ⟨⟨[], rfl, by simp⟩, Nat.le_refl _, fun _ _ _ => rfl, by rw [show v - 1 - ((Nd.numL x.kids : Int) - Nd.numL x.kids) = v - 1 from by omega]; exact sb _, by omega⟩
      have hstep : ∀ y L J, S (y :: L) J → ∃ q J', (CallF.none.with 60 g47) 60 (y.enc :: [.ptr (H.length + 1) 0, .ptr (H.length + 2) 0]) J = .val (.b q) J' ∧ (q = false → S L J') ∧ (q = true → B J') := by
        rintro y L J ⟨⟨pre, hpre, hpd⟩, hJl, hJo, hw, w2⟩
        have hy : y ∈ x.kids := by rw [hpre]; simp
        have hyn := Nd.num_mem hy
        have hLn : Nd.numL (y :: L) = y.num + Nd.numL L := rfl
        have hsuf : Nd.numL x.kids = Nd.numL pre + Nd.numL (y :: L) := by rw [hpre]; exact numL_suffix _ _
        obtain ⟨r, J', ⟨q, rfl, hD⟩, hc⟩ := s47 0 (by omega) [y.enc, .ptr (H.length + 1) 0, .ptr (H.length + 2) 0] J ⟨y, _, hy, rfl, by omega, by rw [hJo _ (by omega) (by omega)]; simp only [K1]; rw [sne _ _ (by omega)]; exact g4, by rw [hJo _ (by omega) (by omega)]; simp only [K1]; rw [sne _ _ (by omega)]; exact g5, hw, by omega, by omega⟩
        obtain ⟨⟨d1, d2, v', d3, d4, d5⟩, d6, d7⟩ := hD y _ rfl hw
        refine ⟨q, J', by rw [w_here]; exact hc, fun hq => ?_, fun hq => ?_⟩
        · obtain ⟨⟨f1, f2⟩, f3⟩ := d6 hq
          refine ⟨⟨pre ++ [y], by simpa using hpre, fun z hz => ?_⟩, by omega, fun n hn hne => by rw [d2 n (by omega) hne]; exact hJo n hn hne, ?_, by omega⟩
          · rcases List.mem_append.1 hz with hz | hz
            · exact hpd z hz
            · obtain rfl : z = y := by simpa using hz
              exact f2
          · rw [f3, show v - 1 - ((Nd.numL x.kids : Int) - Nd.numL (y :: L)) - y.num = v - 1 - ((Nd.numL x.kids : Int) - Nd.numL L) from by omega]
        · refine ⟨by omega, fun n hn hne => by rw [d2 n (by omega) hne]; exact hJo n hn hne, ⟨v', d3, by omega, by omega⟩, fun ⟨e1, e2⟩ => d7 hq ⟨by omega, e2 y hy⟩⟩
      obtain ⟨g66, k66, s66⟩ := spec_heap TT_ok 79 (fun _ vs J => vs = [.isl 3 (Nd.encL x.kids), .fn 60 [.ptr (H.length + 1) 0, .ptr (H.length + 2) 0]] ∧ J = K1) (fun _ _ r J' => ∃ i : Int, r = .i .i64 i ∧ ((i = -1 ∧ S [] J') ∨ (0 ≤ i ∧ B J'))) (by
        rintro _ vs J ⟨rfl, rfl⟩ g' _ _
        exact body_66p (ws n0 k47) x.kids (by omega) _ _ (by rfl) S B hstep K1 hS0) 1
      obtain ⟨r, K2, ⟨i, rfl, hSL⟩, hi⟩ := s66 0 (by omega) _ _ ⟨rfl, rfl⟩
      obtain ⟨g41, k41, s41⟩ := spec_heap TT_ok 55 (fun _ vs J => vs = [.isl 3 (Nd.encL x.kids), .fn 60 [.ptr (H.length + 1) 0, .ptr (H.length + 2) 0]] ∧ J = K1) (fun _ _ r J' => r = .b (decide (0 ≤ i)) ∧ J' = K2) (by
        rintro _ vs J ⟨rfl, rfl⟩ g' _ _
        exact body_41p (ws n0 k66) x.kids _ _ K1 K2 i (by rw [w_here]; exact hi)) 1
      obtain ⟨r, J', ⟨rfl, rfl⟩, hq⟩ := s41 0 (by omega) _ _ ⟨rfl, rfl⟩
      refine body_20 (ws n0 k41) x b d H _ fun t hw h3 h4 h5 => ?_
      rw [hK]
      refine (rest20pc (ws n0 k41) x b H.length (H.length + 1) (H.length + 2) d v K t hw h3 h4 h5 g3 g4 g5 gb (fun c => by rw [sne _ _ (by omega)]; exact g3) (fun c => by rw [sne _ _ (by omega)]; exact g4) (fun c => by rw [sne _ _ (by omega)]; exact g5) sb hwv hneg hdeep _ J' (by rw [w_here]; exact hq)).mono fun o ho => ho.mono ?_
      rintro r H' ⟨rfl, rfl⟩
      rcases hSL with ⟨rfl, ⟨pre, hpre, hpd⟩, z1, z2, z3, z4⟩ | ⟨hi0, z1, z2, ⟨w, z3, z4, z5⟩, z6⟩
      · have e0 : Nd.numL ([] : List Nd) = 0 := rfl
        rw [e0] at z3 z4
        have ep : x.kids = pre := by simpa using hpre
        rw [← ep] at hpd
        refine ⟨false, by simp, ⟨by omega, fun n hn hne => by rw [z2 n (by omega) hne]; simp only [K1]; rw [sne _ _ hne, kold n hn], _, z3, by omega, by omega⟩, fun _ => ⟨⟨by omega, dep_bound hd1 hdeep hpd⟩, ?_⟩, fun h => by cases h⟩
        rw [z3, show v - 1 - ((Nd.numL x.kids : Int) - (0 : Nat)) = v - x.num from by omega]
      · refine ⟨true, by simp [hi0], ⟨by omega, fun n hn hne => by rw [z2 n (by omega) hne]; simp only [K1]; rw [sne _ _ hne, kold n hn], w, z3, by omega, by omega⟩, (fun h => by cases h), fun _ hf => z6 ⟨by have := hf.1; omega, fun y hy => ?_⟩⟩
        have := dep_kid hy
        have := hf.2
        omega
    refine key.mono ?_
    rintro r H' ⟨q, rfl, hD⟩
    exact ⟨q, rfl, fin q H' hD⟩) NT
  refine ⟨g, hg, fun x b d v H hL => ?_⟩
  obtain ⟨r, H', ⟨q, rfl, hD⟩, h⟩ := hs x.num hL.2.1 _ H ⟨x, b, d, v, hL, rfl⟩
  obtain ⟨h1, h2, h3⟩ := hD x b d v hL rfl
  exact ⟨q, H', h1, h2, h3, h⟩
def tooL (x : Nd) : Bool := decide (4000 < x.num ∨ 100 < x.dep)
theorem sp14p : ∃ g, SpecOK Tryz.prog TT 30 g ∧ ∀ x : Nd, x.num < NT → ∀ H, g [x.enc] H = .val (.b (tooL x)) H := by
  obtain ⟨g20, k20, s20⟩ := sp20p
  refine spec_val TT_ok TT_plain 30 (fun x : Nd => [x.enc]) (fun x => x.num < NT) (fun x => .b (tooL x)) (fun x _ => by simp [nlL, Nd.enc_nl]) (fun _ => rfl) (fun a b h => by
    simp only [List.cons.injEq, and_true] at h; rw [Nd.enc_inj _ _ h]) fun x hx => ?_
  have hN : NT = 1090000 := rfl
  obtain ⟨q, K, _, h1, h2, hq⟩ := s20 x 1 1 4000 [some ⟨24, [.i .i64 x.kind, .s x.text, .isl 3 (Nd.encL x.kids)], .all⟩, some ⟨3, [.i .i64 4000], .all⟩] ⟨rfl, hx, by simp, rfl, by omega, by omega, by omega, by omega⟩
  have e : q = tooL x := by
    cases q with
    | false =>
      have := (h1 rfl).1
      simp only [fitL] at this
      simp only [tooL]
      symm
      rw [decide_eq_false_iff_not]
      omega
    | true =>
      have := h2 rfl
      simp only [fitL] at this
      simp only [tooL]
      symm
      rw [decide_eq_true_eq]
      omega
  rw [← e]
  obtain ⟨fn, c, k1, k2, k3, o, ⟨r', rfl, k4⟩, hx'⟩ := body_14p (ws n0 k20) x q K (by rw [w_here]; exact hq)
  exact ⟨fn, c, k1, k2, k3, o, k4, hx'⟩
theorem body_16pf {call : CallF} (hC : call.Sound Tryz.prog TT) (x : Nd) (hs : ∀ H, call 54 [.ipt 285 [.agg shCells] 0 0, x.enc] H = .val (.b false) H)  : EBody Tryz.prog TT 32 [.ipt 285 [.agg shCells] 0 0, x.enc] (fun r => r = .val (.b false)) := by
 refine en Tryz.f32 rfl rfl (by simp [Tryz.f32]) 15 rfl fun t hw hg => ?_
 have h0 := hg 0 _ rfl
 have h1 := hg 1 _ rfl
 clear hg
 try simp only [Nd.enc_eq] at *
 apply rS hC
 · iterate 3 refine oA ?_
   rfl
 apply rS hC
 · iterate 4 refine oA ?_
   iterate 5 refine oC ?_
   iterate 2 refine oA ?_
   rfl
 apply Tri.ret
 refine endsE (by simp [Tryz.f32] <;> rfl) (by rfl) ?_
 first
  | rfl
  | simp
theorem body_16pt {call : CallF} (hC : call.Sound Tryz.prog TT) (x : Nd) (q : Bool) (hs : ∀ H, call 54 [.ipt 285 [.agg shCells] 0 0, x.enc] H = .val (.b true) H) (hq : ∀ H, call 55 [.isl 3 (Nd.encL x.kids), .fn 56 [.ipt 1 [.agg [.ipt 285 [.agg shCells] 0 0]] 0 0]] H = .val (.b q) H)  : EBody Tryz.prog TT 32 [.ipt 285 [.agg shCells] 0 0, x.enc] (fun r => r = .val (.b (!q))) := by
 refine en Tryz.f32 rfl rfl (by simp [Tryz.f32]) 15 rfl fun t hw hg => ?_
 have h0 := hg 0 _ rfl
 have h1 := hg 1 _ rfl
 clear hg
 try simp only [Nd.enc_eq] at *
 apply rS hC
 · iterate 3 refine oA ?_
   rfl
 apply sQ
 refine Tri.freeze_put2 2 3 30 (v := .ipt 1 [.agg [.ipt 285 [.agg shCells] 0 0]] 0 0) (u := .ipt 3 [.agg [.i .i64 x.kind, .s x.text, .isl 3 (Nd.encL x.kids)]] 0 0) (by simp [fz, fzL, nl, nlL, shCells_nl, Nd.encL_nl, h0, h1] <;> rfl) (by simp [fz, fzL, nl, nlL, Nd.encL_nl, h0, h1] <;> rfl) ?_
 apply rN hC
 · iterate 4 refine oA ?_
   iterate 5 refine oB ?_
   iterate 2 refine oA ?_
   rfl
 apply sN
 apply Tri.ret
 refine endsE (by simp [Tryz.f32] <;> rfl) (by rfl) ?_
 first
  | rfl
  | simp
theorem build51 : evBuild TT 59 [(0, .agg shCells)] = some (.agg shCells) := by kernel_rfl
theorem shFlat : shCells.all flat = true := by kernel_rfl
theorem shLen : shCells.length = 285 := by kernel_rfl
theorem shFz (H : Heap) : fzL H 3000 shCells = some shCells := by kernel_rfl

theorem body_8pl {call : CallF} (hC : call.Sound Tryz.prog TT) (x : Nd) (hs : ∀ H, call 30 [x.enc] H = .val (.b true) H)  : EBody Tryz.prog TT 14 [x.enc] (fun r => r = .val (.i .i64 4)) := by
 refine en Tryz.f14 rfl rfl (by simp [Tryz.f14]) 13 rfl fun t hw hg => ?_
 have h0 := hg 0 _ rfl
 clear hg
 try simp only [Nd.enc_eq] at *
 apply rS hC
 · iterate 2 refine oA ?_
   rfl
 apply sQ
 apply rS hC
 · iterate 2 refine oA ?_
   rfl
 refine cT (by simp [h0, hs] <;> rfl) ?_
 apply rS hC
 · refine oA ?_
   rfl
 apply Tri.ret
 apply sR
 refine endsE (by simp [Tryz.f14] <;> rfl) (by rfl) ?_
 first
  | rfl
  | simp
theorem body_8pst {call : CallF} (hC : call.Sound Tryz.prog TT) (x : Nd) (hs : ∀ H, call 30 [x.enc] H = .val (.b false) H) (hsh : ∀ H, call 31 [] H = .val (.agg shCells) H) (hq : ∀ H, call 32 [.ipt 285 [.agg shCells] 0 0, x.enc] H = .val (.b true) H)  : EBody Tryz.prog TT 14 [x.enc] (fun r => r = .val (.i .i64 0)) := by
 refine en Tryz.f14 rfl rfl (by simp [Tryz.f14]) 13 rfl fun t hw hg => ?_
 have h0 := hg 0 _ rfl
 clear hg
 try simp only [Nd.enc_eq] at *
 apply rS hC
 · iterate 2 refine oA ?_
   rfl
 apply sQ
 apply rS hC
 · iterate 2 refine oA ?_
   rfl
 refine cF (by simp [h0, hs, hsh, hq] <;> rfl) ?_
 apply Tri.skip
 apply sN
 apply sQ
 apply rS hC
 · iterate 4 refine gO (by simp [h0, hs, hsh, hq, -evBuild, build51, -flat, -List.all_eq_true, shFlat, shLen] <;> rfl) ?_
   rfl
 apply sQ
 refine Tri.freeze_put2 1 3 3001 (v := .ipt 3 [.agg [.i .i64 x.kind, .s x.text, .isl 3 (Nd.encL x.kids)]] 0 0) (u := .ipt 285 [.agg shCells] 0 0) (by simp [fz, fzL, nl, nlL, Nd.encL_nl, h0] <;> rfl) (by simp [fz, shFz, shLen] <;> rfl) ?_
 apply rN hC
 · iterate 4 refine oA ?_
   rfl
 apply sN
 refine cF (by simp [h0, hs, hsh, hq] <;> rfl) ?_
 apply Tri.skip
 apply sN
 apply rS hC
 · refine oA ?_
   rfl
 apply Tri.ret
 refine endsE (by simp [Tryz.f14] <;> rfl) (by rfl) ?_
 first
  | rfl
  | simp
theorem body_8psf {call : CallF} (hC : call.Sound Tryz.prog TT) (x : Nd) (hs : ∀ H, call 30 [x.enc] H = .val (.b false) H) (hsh : ∀ H, call 31 [] H = .val (.agg shCells) H) (hq : ∀ H, call 32 [.ipt 285 [.agg shCells] 0 0, x.enc] H = .val (.b false) H)  : EBody Tryz.prog TT 14 [x.enc] (fun r => r = .val (.i .i64 2)) := by
 refine en Tryz.f14 rfl rfl (by simp [Tryz.f14]) 13 rfl fun t hw hg => ?_
 have h0 := hg 0 _ rfl
 clear hg
 try simp only [Nd.enc_eq] at *
 apply rS hC
 · iterate 2 refine oA ?_
   rfl
 apply sQ
 apply rS hC
 · iterate 2 refine oA ?_
   rfl
 refine cF (by simp [h0, hs, hsh, hq] <;> rfl) ?_
 apply Tri.skip
 apply sN
 apply sQ
 apply rS hC
 · iterate 4 refine gO (by simp [h0, hs, hsh, hq, -evBuild, build51, -flat, -List.all_eq_true, shFlat, shLen] <;> rfl) ?_
   rfl
 apply sQ
 refine Tri.freeze_put2 1 3 3001 (v := .ipt 3 [.agg [.i .i64 x.kind, .s x.text, .isl 3 (Nd.encL x.kids)]] 0 0) (u := .ipt 285 [.agg shCells] 0 0) (by simp [fz, fzL, nl, nlL, Nd.encL_nl, h0] <;> rfl) (by simp [fz, shFz, shLen] <;> rfl) ?_
 apply rN hC
 · iterate 4 refine oA ?_
   rfl
 apply sN
 refine cT (by simp [h0, hs, hsh, hq] <;> rfl) ?_
 apply rS hC
 · refine oA ?_
   rfl
 apply Tri.ret
 apply sR
 refine endsE (by simp [Tryz.f14] <;> rfl) (by rfl) ?_
 first
  | rfl
  | simp
theorem encS_inj : ∀ a b : List (List UInt8), encS a = encS b → a = b
  | [], [], _ => rfl
  | [], _ :: _, h => by simp [encS] at h
  | _ :: _, [], h => by simp [encS] at h
  | x :: a, y :: b, h => by
    simp only [encS, List.map_cons, List.cons.injEq, V.s.injEq] at h
    rw [h.1, encS_inj a b h.2]
theorem indexByte_cases (s : List UInt8) (c : UInt8) : Lib.indexByte s c = -1 ∨ ∃ n : Nat, Lib.indexByte s c = n ∧ n < s.length := by
  induction s with
  | nil => exact .inl rfl
  | cons b l ih =>
    simp only [Lib.indexByte]
    by_cases h : (b == c) = true
    · rw [if_pos h]; exact .inr ⟨0, rfl, by simp⟩
    · rw [if_neg h]
      rcases ih with h1 | ⟨n, h1, h2⟩
      · rw [h1]; exact .inl rfl
      · rw [h1]
        have : ¬ (((n : Int) == -1) = true) := by
          intro e
          have : (n : Int) = -1 := eq_of_beq e
          omega
        rw [if_neg this]
        exact .inr ⟨n + 1, by push_cast; rfl, by simp; omega⟩
theorem sp60 : ∃ g, SpecOK Tryz.prog TT 73 g ∧ ∀ s : List UInt8, s.length < NT → ∀ H, g [.s s] H = .val (.b (digitsN s)) H :=
  spec_val TT_ok TT_plain 73 (fun s : List UInt8 => [.s s]) (fun s => s.length < NT) (fun s => .b (digitsN s)) (fun x _ => by simp [nlL, nl]) (fun _ => rfl) (fun a b h => by
    simp only [List.cons.injEq, V.s.injEq, and_true] at h; rw [h]) fun s hs =>
    body_60 (ws n0 ok75) s fun H => by
      rw [w_here]
      have h1 : s.length < 4294967281 := by have : NT = 1090000 := rfl; omega
      simp only [spTrim]
      rw [if_pos ⟨h1, by decide, by decide⟩]
      rfl
theorem pieces_length (s : List UInt8) (c : UInt8) : (pieces s c).length ≤ s.length + 1 := by
  have hle := Lib.countB_le (⟨#[c]⟩ : ByteArray) (by show 1 ≤ 1; omega) s.length ⟨s.toArray⟩ (by show s.toArray.size ≤ _; simp)
  have hlen := Lib.splitB_all (⟨#[c]⟩ : ByteArray) (by show 1 ≤ 1; omega) 0 _ ⟨s.toArray⟩ rfl
  have hsz : (⟨s.toArray⟩ : ByteArray).size = s.length := by show s.toArray.size = _; simp
  simp only [pieces, List.length_map, hlen]
  omega
theorem sp55 : ∃ g, SpecOK Tryz.prog TT 68 g ∧ ∀ p : List UInt8 × UInt8, p.1.length < NT → ∀ H, g [.s p.1, .s [p.2]] H = .val (.isl 1 (encS (pieces p.1 p.2))) H :=
  spec_val TT_ok TT_plain 68 (fun p : List UInt8 × UInt8 => [.s p.1, .s [p.2]]) (fun p => p.1.length < NT) (fun p => .isl 1 (encS (pieces p.1 p.2))) (fun x _ => by simp [nlL, nl]) (fun p => by simp [nl, encS_nl]) (fun a b h => by
    simp only [List.cons.injEq, V.s.injEq, and_true] at h; rw [h.1, h.2]) fun p hp =>
    body_55 (ws n0 ok73) p.1 p.2 _ fun H => by
      rw [w_here]
      have : p.1.length < 4294967281 := by have : NT = 1090000 := rfl; omega
      simp only [spGen]
      rw [if_pos this]
      rfl
inductive TP : FuncId → List V → Prop
  | empty : TP 43 []
  | ident : TP 41 []
  | valid : TP 47 []
  | integer : TP 48 []
  | float : TP 49 []
  | path (c : UInt8) (k : Int) : TP 67 [.ipt 1 [.agg [.s [c]]] 0 0, .ipt 1 [.agg [.i .i64 k]] 0 0]
  | among (l : List (List UInt8)) (h : l.length < 100) : TP 76 [.ipt 1 [.agg [.isl 1 (encS l)]] 0 0]
inductive NP : V → Prop
  | p23 : NP (.fn 18 [])
  | p24 : NP (.fn 20 [])
  | p29 : NP (.fn 44 [])
  | p32 : NP (.fn 22 [])
  | p37 : NP (.fn 51 [])
  | p38 : NP (.fn 52 [])
  | p39 : NP (.fn 53 [])
  | kind (k : Int) : NP (.fn 71 [.ipt 1 [.agg [.i .i64 k]] 0 0])
  | word (l : List (List UInt8)) (h : l.length < 100) : NP (.fn 61 [.ipt 1 [.agg [.isl 1 (encS l)]] 0 0])
  | maybe23 : NP (.fn 66 [.ipt 1 [.agg [.fn 18 []]] 0 0])
  | maybe24 : NP (.fn 66 [.ipt 1 [.agg [.fn 20 []]] 0 0])
structure Preds (call : CallF) : Prop where
  sound : call.Sound Tryz.prog TT
  text : ∀ tf tc, TP tf tc → TT.ext tf = none ∧ ∀ s : List UInt8, s.length < NT → ∃ b : Bool, ∀ H, call tf (.s s :: tc) H = .val (.b b) H
  node : ∀ v, NP v → ∃ f c, v = .fn f c ∧ TT.ext f = none ∧ ∀ x : Nd, x.num < NT → ∃ b : Bool, ∀ H, call f (x.enc :: c) H = .val (.b b) H
mutual
/-- All texts are short. -/
def Nd.tok : Nd → Prop
  | .mk _ s l => s.length < NT ∧ Nd.tokL l
def Nd.tokL : List Nd → Prop
  | [] => True
  | x :: l => x.tok ∧ Nd.tokL l
end
theorem Nd.tok_mem : ∀ {l : List Nd} {x : Nd}, Nd.tokL l → x ∈ l → x.tok
  | y :: l, x, h, hx => by
    simp only [Nd.tokL] at h
    rcases List.mem_cons.1 hx with rfl | hx
    · exact h.1
    · exact Nd.tok_mem h.2 hx
theorem Nd.tok_eq (x : Nd) : x.tok ↔ x.text.length < NT ∧ Nd.tokL x.kids := by cases x; simp [Nd.tok, Nd.text, Nd.kids]
abbrev CKV : V := .ipt 285 [.agg shCells] 0 0
mutual
/-- One holds of all nodes. -/
def allB (one : Nd → Bool) : Nd → Bool
  | .mk k s l => one (.mk k s l) && allBL one l
def allBL (one : Nd → Bool) : List Nd → Bool
  | [] => true
  | x :: l => allB one x && allBL one l
end
theorem allB_eq (one : Nd → Bool) (x : Nd) : allB one x = (one x && allBL one x.kids) := by cases x; simp [allB, Nd.kids]
theorem allBL_any (one : Nd → Bool) : ∀ l : List Nd, (!(l.any fun y => !(allB one y))) = allBL one l
  | [] => rfl
  | x :: l => by
    have := allBL_any one l
    simp only [List.any_cons, allBL, ← this]
    cases allB one x <;> simp
theorem EBody.of2 {F : FuncId} {vs : List V} {r : Res} (h : EBody Tryz.prog TT F vs (fun x => x = r)) : Body Tryz.prog TT F vs r := by
  obtain ⟨fn, c, h1, h2, h3, o, ⟨r', rfl, k2⟩, hx⟩ := h
  exact ⟨fn, c, h1, h2, h3, o, k2, hx⟩
theorem sp_contp {call : CallF} (hC : call.Sound Tryz.prog TT) (g : FuncId) (cs : List V) (hx0 : TT.ext g = none) (hcs : nlL cs = true) (l : List Nd) (hlen : l.length < 1100000) (p : Nd → Bool) (hg : ∀ x ∈ l, ∀ H, call g (x.enc :: cs) H = .val (.b (p x)) H) :
    ∃ g4, SpecOK Tryz.prog TT 55 g4 ∧ ∀ H, g4 [.isl 3 (Nd.encL l), .fn g cs] H = .val (.b (l.any p)) H := by
  have hnl : nlL [.isl 3 (Nd.encL l), .fn g cs] = true := by simp [nlL, nl, Nd.encL_nl, hcs]
  obtain ⟨g6, hg6, hs6⟩ := spec_pure TT_ok TT_plain 79 (fun vs => vs = [.isl 3 (Nd.encL l), .fn g cs]) (fun _ r => ∃ i : Int, r = .val (.i .i64 i) ∧ decide (0 ≤ i) = (l.any fun x => p x)) (by
    rintro vs rfl
    refine ⟨hnl, by rintro r ⟨i, rfl, _⟩; rfl, ?_⟩
    exact (body_66 hC l g cs p hx0 hg hlen).mono fun r ⟨i, h, h0, h1, h2⟩ => ⟨i, h, h0⟩)
  obtain ⟨r, ⟨i, rfl, h0⟩, hi⟩ := hs6 _ rfl
  obtain ⟨g4, hg4, hs4⟩ := spec_val TT_ok TT_plain 55 (fun _ : Unit => [.isl 3 (Nd.encL l), .fn g cs]) (fun _ => True) (fun _ => .b (l.any p)) (fun _ _ => hnl) (fun _ => rfl) (fun _ _ _ => rfl) (fun _ _ => body_41 (ws n0 hg6) (Nd.encL l) i _ h0 g cs fun H => by rw [w_here]; exact hi H)
  exact ⟨g4, hg4, hs4 () trivial⟩
theorem sp16p (one : Nd → Bool) (g40 : Spec) (k40 : SpecOK Tryz.prog TT 54 g40) (s40 : ∀ x : Nd, x.num < NT → x.text.length < NT → ∀ H, g40 [CKV, x.enc] H = .val (.b (one x)) H) :
    ∃ g, SpecOK Tryz.prog TT 32 g ∧ ∀ x : Nd, x.num < NT → x.tok → ∀ H, g [CKV, x.enc] H = .val (.b (allB one x)) H := by
  obtain ⟨g, hg, hs⟩ := spec_rec TT_ok TT_plain 32 (fun k vs => ∃ x : Nd, x.num = k ∧ x.num < NT ∧ x.tok ∧ vs = [CKV, x.enc]) (fun vs r => ∃ x : Nd, vs = [CKV, x.enc] ∧ r = .val (.b (allB one x))) (by
    rintro k vs ⟨x, rfl, hx, htok, rfl⟩
    refine ⟨by simp [nlL, nl, Nd.enc_nl, shCells_nl], by rintro r ⟨_, _, rfl⟩; rfl, fun g hg hrec => ?_⟩
    have hnum := x.num_eq
    have hlen := Nd.numL_length x.kids
    have hN : NT = 1090000 := rfl
    have htok' := (Nd.tok_eq x).1 htok
    have hb := s40 x hx htok'.1
    have key : EBody Tryz.prog TT 32 [CKV, x.enc] (fun r => r = .val (.b (allB one x))) := by
      rw [allB_eq]
      cases ho : one x with
      | false =>
        rw [ho] at hb
        exact body_16pf (ws n0 k40) x fun H => by rw [w_here]; exact hb H
      | true =>
        rw [ho] at hb
        have hkid : ∀ y ∈ x.kids, ∀ H, g [CKV, y.enc] H = .val (.b (allB one y)) H := fun y hy H => by
          have := Nd.num_mem hy
          obtain ⟨r, ⟨y', e, rfl⟩, h⟩ := hrec y.num (by omega) [CKV, y.enc] ⟨y, rfl, by omega, Nd.tok_mem htok'.2 hy, rfl⟩
          simp only [List.cons.injEq, true_and, and_true] at e
          have := Nd.enc_inj _ _ e
          subst this
          rw [h]
          rfl
        obtain ⟨g42, hg42, hs42⟩ := spec_val TT_ok TT_plain 56 (fun y : Nd => [y.enc, .ipt 1 [.agg [CKV]] 0 0]) (fun y => y ∈ x.kids) (fun y => .b (!(allB one y))) (fun y _ => by simp [nlL, nl, Nd.enc_nl, shCells_nl]) (fun _ => rfl) (fun a b h => by
          simp only [List.cons.injEq, and_true] at h
          rw [Nd.enc_inj _ _ h]) (fun y hy =>
          body_42 (ws n0 hg) y CKV _ fun H => by rw [w_here]; exact hkid y hy H)
        obtain ⟨g4, hg4, hq⟩ := sp_contp (ws n0 hg42) 56 [.ipt 1 [.agg [CKV]] 0 0] rfl (by simp [nlL, nl, shCells_nl]) x.kids (by omega) (fun y => !(allB one y)) (fun y hy H => by rw [w_here]; exact hs42 y hy H)
        have := body_16pt (ws (ws n0 k40) hg4) x _ (fun H => by rw [w_other _ _ _ _ rfl, w_here]; exact hb H) fun H => by rw [w_here]; exact hq H
        rw [allBL_any] at this
        simpa using this
    refine key.mono ?_
    rintro r rfl
    exact ⟨x, rfl, rfl⟩) NT
  refine ⟨g, hg, fun x hx ht H => ?_⟩
  obtain ⟨r, ⟨x', e, rfl⟩, h⟩ := hs x.num hx [CKV, x.enc] ⟨x, rfl, hx, ht, rfl⟩
  simp only [List.cons.injEq, true_and, and_true] at e
  have := Nd.enc_inj _ _ e
  subst this
  rw [h]
  rfl
def chkV (one : Nd → Bool) (x : Nd) : Int := if tooL x = true then 4 else if allB one x = true then 0 else 2
theorem sp8p (one : Nd → Bool) (g40 : Spec) (k40 : SpecOK Tryz.prog TT 54 g40) (s40 : ∀ x : Nd, x.num < NT → x.text.length < NT → ∀ H, g40 [CKV, x.enc] H = .val (.b (one x)) H) :
    ∃ g, SpecOK Tryz.prog TT 14 g ∧ ∀ x : Nd, x.num < NT ∧ x.tok → ∀ H, g [x.enc] H = .val (.i .i64 (chkV one x)) H := by
  obtain ⟨g14, k14, s14⟩ := sp14p
  obtain ⟨g16, k16, s16⟩ := sp16p one g40 k40 s40
  refine spec_val TT_ok TT_plain 14 (fun x : Nd => [x.enc]) (fun x => x.num < NT ∧ x.tok) (fun x => .i .i64 (chkV one x)) (fun x _ => by simp [nlL, Nd.enc_nl]) (fun _ => rfl) (fun a b h => by
    simp only [List.cons.injEq, and_true] at h
    rw [Nd.enc_inj _ _ h]) fun x hx => EBody.of2 ?_
  have hb := s14 x hx.1
  have hC := ws (ws (ws n0 k14) k16) ok15
  simp only [chkV]
  cases ht : tooL x with
  | true =>
    rw [ht] at hb
    simpa using body_8pl hC x fun H => by rw [w_other _ _ _ _ rfl, w_other _ _ _ _ rfl, w_here]; exact hb H
  | false =>
    rw [ht] at hb
    have hq := s16 x hx.1 hx.2
    cases ha : allB one x with
    | true =>
      rw [ha] at hq
      simpa using body_8pst hC x (fun H => by rw [w_other _ _ _ _ rfl, w_other _ _ _ _ rfl, w_here]; exact hb H) (fun H => by rw [w_here]; rfl) fun H => by rw [w_other _ _ _ _ rfl, w_here]; exact hq H
    | false =>
      rw [ha] at hq
      simpa using body_8psf hC x (fun H => by rw [w_other _ _ _ _ rfl, w_other _ _ _ _ rfl, w_here]; exact hb H) (fun H => by rw [w_here]; rfl) fun H => by rw [w_other _ _ _ _ rfl, w_here]; exact hq H
theorem spN (F : FuncId) (val : Nd → V) (D : Nd → Prop) (hv : ∀ x, nl (val x) = true) (h : ∀ x, D x → EBody Tryz.prog TT F [x.enc] (fun r => r = .val (val x))) : ∃ g, SpecOK Tryz.prog TT F g ∧ ∀ x : Nd, D x → ∀ H, g [x.enc] H = .val (val x) H :=
  spec_val TT_ok TT_plain F (fun x : Nd => [x.enc]) D val (fun x _ => by simp [nlL, Nd.enc_nl]) hv (fun a b h => by
    simp only [List.cons.injEq, and_true] at h; rw [Nd.enc_inj _ _ h]) fun x hx => EBody.of2 (h x hx)
theorem spNrec {base : CallF} (hb : base.Sound Tryz.prog TT) (F : FuncId) (val : Nd → V) (D : Nd → Prop) (hD : ∀ x y, D x → y ∈ x.kids → D y) (hn : ∀ x, D x → x.num < NT) (hv : ∀ x, nl (val x) = true)
    (h : ∀ (x : Nd) (call : CallF), D x → call.Sound Tryz.prog TT → (∀ f vs H, (f == F) = false → call f vs H = base f vs H) → (∀ y ∈ x.kids, ∀ H, call F [y.enc] H = .val (val y) H) → EBody Tryz.prog TT F [x.enc] (fun r => r = .val (val x))) :
    ∃ g, SpecOK Tryz.prog TT F g ∧ ∀ x : Nd, D x → ∀ H, g [x.enc] H = .val (val x) H := by
  obtain ⟨g, hg, hs⟩ := spec_rec TT_ok TT_plain F (fun k vs => ∃ x : Nd, x.num = k ∧ D x ∧ vs = [x.enc]) (fun vs r => ∃ x : Nd, vs = [x.enc] ∧ r = .val (val x)) (by
    rintro k vs ⟨x, rfl, hx, rfl⟩
    refine ⟨by simp [nlL, nl, Nd.enc_nl], by rintro r ⟨x, _, rfl⟩; exact hv x, fun g hg hrec => ?_⟩
    have hnum := x.num_eq
    refine (h x (base.with F g) hx (ws hb hg) (fun f vs H hf => w_other _ _ _ _ hf vs H) (fun y hy H => ?_)).mono ?_
    · have := Nd.num_mem hy
      obtain ⟨r, ⟨x', e, rfl⟩, h⟩ := hrec y.num (by omega) [y.enc] ⟨y, rfl, hD x y hx hy, rfl⟩
      simp only [List.cons.injEq, and_true] at e
      have := Nd.enc_inj _ _ e
      subst this
      rw [w_here, h]
      rfl
    · rintro r rfl
      exact ⟨x, rfl, rfl⟩) NT
  refine ⟨g, hg, fun x hx H => ?_⟩
  obtain ⟨r, ⟨x', e, rfl⟩, h⟩ := hs x.num (hn x hx) [x.enc] ⟨x, rfl, hx, rfl⟩
  simp only [List.cons.injEq, and_true] at e
  have := Nd.enc_inj _ _ e
  subst this
  rw [h]
  rfl
theorem kids_len {x : Nd} (h : x.num < NT) : x.kids.length < 1100000 := by
  have hnum := x.num_eq
  have hlen := Nd.numL_length x.kids
  have hN : NT = 1090000 := rfl
  omega
theorem num_kid {x y : Nd} (h : x.num < NT) (hy : y ∈ x.kids) : y.num < NT := by
  have hnum := x.num_eq
  have := Nd.num_mem hy
  omega
theorem sp1016 : ∃ g, SpecOK Tryz.prog TT 16 g ∧ ∀ x : Nd, x.num < NT → ∀ H, g [x.enc] H = .val (.tup [.i .i64 x.num, .i .i64 x.dep]) H :=
  spNrec n0 16 (fun x => .tup [.i .i64 x.num, .i .i64 x.dep]) (fun x => x.num < NT) (fun x y h hy => num_kid h hy) (fun _ h => h) (fun _ => rfl) fun x call hx hC _ hrec => body_1016 hC x (by have hN : NT = 1090000 := rfl; omega) hrec
mutual
def asgR : Nd → Bool
  | .mk k s l => if (k == 34) = true then asgRL l else (k == 23 || k == 26 || k == 28 || k == 31)
def asgRL : List Nd → Bool
  | [] => true
  | x :: l => asgR x && asgRL l
end
theorem asgRL_all : ∀ l : List Nd, asgRL l = l.all fun y => asgR y
  | [] => rfl
  | x :: l => by simp [asgRL, asgRL_all l]
theorem asgR_eq (x : Nd) : asgR x = if (x.kind == 34) = true then (x.kids.all fun y => asgR y) else (x.kind == 23 || x.kind == 26 || x.kind == 28 || x.kind == 31) := by
  cases x; rw [asgR, asgRL_all]; rfl
theorem sp1103 : ∃ g, SpecOK Tryz.prog TT 103 g ∧ ∀ x : Nd, x.num < NT → ∀ H, g [x.enc] H = .val (.b (asgR x)) H :=
  spNrec n0 103 (fun x => .b (asgR x)) (fun x => x.num < NT) (fun x y h hy => num_kid h hy) (fun _ h => h) (fun _ => rfl) fun x call hx hC _ hrec => by
    rw [asgR_eq]
    cases hk : (x.kind == 34) with
    | true => rw [if_pos rfl]; exact body_1103t hC x (kids_len hx) hk _ hrec
    | false => rw [if_neg (by decide)]; exact body_1103f hC x hk
def more2R (x : Nd) : Bool :=
  if (x.kind == 1) = true then ordF false x.kids else if (x.kind == 31) = true then ordF false x.kids
  else if (x.kind == 3) = true then (match x.kids with
    | a :: _ :: _ :: d :: r => !(a.text == [116, 121, 112, 101]) || (((r.length : Int) + 1 + 1 + 1 + 1 == 4) && d.kind != 5)
    | _ => false)
  else if (x.kind == 27) = true then (match x.kids with
    | a :: _ => asgR a
    | [] => false)
  else if (x.kind == 25) = true then (x.kids.all fun y => y.kind != 25)
  else if (x.kind == 47) = true then decide ((2 : Int) < x.kids.length) else true
theorem sp1084 : ∃ g, SpecOK Tryz.prog TT 84 g ∧ ∀ x : Nd, (x.num < NT ∧ (x.kind = 3 → 4 ≤ x.kids.length) ∧ (x.kind = 27 → 1 ≤ x.kids.length)) → ∀ H, g [x.enc] H = .val (.b (more2R x)) H := by
  obtain ⟨g1, k1, s1⟩ := sp1103
  refine spN 84 (fun x => .b (more2R x)) (fun x => x.num < NT ∧ (x.kind = 3 → 4 ≤ x.kids.length) ∧ (x.kind = 27 → 1 ≤ x.kids.length)) (fun _ => rfl) fun x ⟨hn, h3, h27⟩ => ?_
  have hC := ws n0 k1
  have hl := kids_len hn
  unfold more2R
  cases e1 : (x.kind == 1) with
  | true => rw [if_pos rfl]; exact body_1084m hC x hl e1
  | false =>
  rw [if_neg (by decide)]
  cases e31 : (x.kind == 31) with
  | true => rw [if_pos rfl]; exact body_1084c hC x hl e1 e31
  | false =>
  rw [if_neg (by decide)]
  cases e3 : (x.kind == 3) with
  | true =>
    rw [if_pos rfl]
    have h4 := h3 (eq_of_beq e3)
    match hk : x.kids, h4 with
    | a :: b :: c :: d :: r, _ => exact body_1084e hC x e1 e31 e3 a b c d r hk (by omega) (by omega)
    | [], h4 | [_], h4 | [_, _], h4 | [_, _, _], h4 => simp at h4
  | false =>
  rw [if_neg (by decide)]
  cases e27 : (x.kind == 27) with
  | true =>
    rw [if_pos rfl]
    have h4 := h27 (eq_of_beq e27)
    match hk : x.kids, h4 with
    | a :: r, _ => exact body_1084a hC x e1 e31 e3 e27 a r _ hk (by omega) fun H => by rw [w_here]; exact s1 a (num_kid hn (by rw [hk]; simp)) H
    | [], h4 => simp at h4
  | false =>
  rw [if_neg (by decide)]
  cases e25 : (x.kind == 25) with
  | true => rw [if_pos rfl]; exact body_1084s hC x hl e1 e31 e3 e27 e25
  | false =>
  rw [if_neg (by decide)]
  cases e47 : (x.kind == 47) with
  | true => rw [if_pos rfl]; exact body_1084x hC x e1 e31 e3 e27 e25 e47
  | false => rw [if_neg (by decide)]; exact body_1084o hC x e1 e31 e3 e27 e25 e47
theorem sp1098a : ∃ g, SpecOK Tryz.prog TT 98 g ∧ ∀ s : List UInt8, ∀ H, g [.s s] H = .val (.b (isIdR s)) H := by
  obtain ⟨g0, k0, s0⟩ := sp1098
  obtain ⟨g, k, s⟩ := spec_val TT_ok TT_plain 98 (fun p : List UInt8 => [.s p]) (fun p => ¬ p.length < 100000000) (fun p => .b (isIdR p)) (fun p _ => by simp [nlL, nl]) (fun p => rfl) (fun a b h => by
    simp only [List.cons.injEq, V.s.injEq, and_true] at h
    rw [h]) (fun s hs => by
    have h2 : ¬ s.length ≤ 60 := by omega
    have h0 : s ≠ [] := fun e => by rw [e] at hs; simp at hs
    have e : isIdR s = false := by simp only [isIdR, decide_eq_false h2, Bool.false_and, Bool.and_false]
    rw [e]
    exact EBody.of1 (body_1098b n0 s (by simpa using h0) h0 (by omega)))
  refine ⟨fun vs H => match vs with | [.s x] => if x.length < 100000000 then g0 [.s x] H else g [.s x] H | _ => .no, fun vs H x hx hne => ?_, fun x H => ?_⟩
  · simp only at hx
    split at hx
    · split at hx
      · exact k0 _ H _ hx hne
      · exact k _ H _ hx hne
    · exact absurd hx.symm hne
  · simp only
    by_cases h : x.length < 100000000
    · rw [if_pos h]; exact s0 x h H
    · rw [if_neg h]; exact s x h H
theorem sp1097 : ∃ g, SpecOK Tryz.prog TT 97 g ∧ ∀ s : List UInt8, s.length < 100000000 → ∀ H, g [.s s] H = .val (.b (pathG s (s.length + 2) 0 0)) H := by
  obtain ⟨g1, k1, s1⟩ := sp1098a
  refine spec_val TT_ok TT_plain 97 (fun s : List UInt8 => [.s s]) (fun s => s.length < 100000000) (fun s => .b (pathG s (s.length + 2) 0 0)) (fun x _ => by simp [nlL, nl]) (fun _ => rfl) (fun a b h => by
    simp only [List.cons.injEq, V.s.injEq, and_true] at h; rw [h]) fun s hs => EBody.of2 ?_
  exact body_1097p (ws n0 k1) s hs fun x H => by rw [w_here]; exact s1 x H
def opL : List (List UInt8) := [[97, 110, 100], [111, 114], [120, 111, 114], [105, 115], [105, 115, 110, 116], [43], [45], [42], [47], [37], [43, 63], [45, 63], [42, 63], [47, 63], [37, 63], [60, 60], [62, 62], [61, 61], [33, 61], [60], [60, 61], [62], [62, 61]]
theorem opL_len : opL.length < 1100000 := by decide
theorem sp1101 : ∃ g, SpecOK Tryz.prog TT 101 g ∧ ∀ H, g [] H = .val (.isl 1 (encS opL)) H := spec_run TT_ok TT_plain 101 3000 3000 (.isl 1 (encS opL)) (by kernel_rfl)
def textR (x : Nd) : Bool :=
  if (x.kind == 2) = true then pathG x.text (x.text.length + 2) 0 0
  else if idK x.kind = true then isIdR x.text
  else if (x.kind == 12) = true then dotG x.text (x.text.length + 1 + 1) 0
  else if (x.kind == 19) = true then integerN x.text
  else if (x.kind == 20) = true then floatN x.text
  else if (x.kind == 21) = true then Lib.validD x.text
  else if (x.kind == 4) = true then Lib.validD x.text
  else if (x.kind == 22) = true then (x.text == [116, 114, 117, 101]) || (x.text == [102, 97, 108, 115, 101])
  else if (x.kind == 36) = true then (x.text == [110, 111, 116]) || (x.text == [45])
  else if (x.kind == 37) = true then (opL.any fun y => y == x.text)
  else (x.text == [])
theorem ScnV_eq (r : List Tk ⊕ (Int × Int)) : ∃ a, ScnV r = .tup [scL r, .i .i64 a, .i .i64 (scC r)] := by
  cases r with
  | inl l => exact ⟨0, rfl⟩
  | inr p => exact ⟨p.1, rfl⟩
theorem tokB_int' {s : List UInt8} {r : List Tk ⊕ (Int × Int)} (h : ScnR s r) : tokB 3 s r = integerN s := by
  rw [Bool.eq_iff_iff, tokB_int h, integerN_iff]
theorem tokB_float' {s : List UInt8} {r : List Tk ⊕ (Int × Int)} (h : ScnR s r) : tokB 4 s r = floatN s := by
  rw [Bool.eq_iff_iff, tokB_float h, floatN_iff]
theorem sp1080 : ∃ g, SpecOK Tryz.prog TT 80 g ∧ ∀ x : Nd, x.text.length < 100000000 → ∀ H, g [x.enc] H = .val (.b (textR x)) H := by
  obtain ⟨g1, k1, s1⟩ := sp1097
  obtain ⟨g2, k2, s2⟩ := sp1098a
  obtain ⟨g3, k3, s3⟩ := sp1099
  obtain ⟨g4, k4, s4⟩ := sp33v
  obtain ⟨g5, k5, s5⟩ := sp1101
  obtain ⟨g6, k6, s6⟩ := sp1100
  refine spN 80 (fun x => .b (textR x)) (fun x => x.text.length < 100000000) (fun _ => rfl) fun x hs => ?_
  have hC := ws (ws (ws (ws (ws (ws n0 k1) k2) k3) k4) k5) k6
  generalize hd : (((((CallF.none.with 97 g1).with 98 g2).with 99 g3).with 47 g4).with 101 g5).with 100 g6 = call at hC
  have c6 : ∀ vs H, call 100 (vs) H = g6 vs H := fun vs H => by rw [← hd, w_here]
  have c5 : ∀ vs H, call 101 (vs) H = g5 vs H := fun vs H => by rw [← hd, w_other _ _ _ _ rfl, w_here]
  have c4 : ∀ vs H, call 47 (vs) H = g4 vs H := fun vs H => by rw [← hd, w_other _ _ _ _ rfl, w_other _ _ _ _ rfl, w_here]
  have c3 : ∀ vs H, call 99 (vs) H = g3 vs H := fun vs H => by rw [← hd, w_other _ _ _ _ rfl, w_other _ _ _ _ rfl, w_other _ _ _ _ rfl, w_here]
  have c2 : ∀ vs H, call 98 (vs) H = g2 vs H := fun vs H => by rw [← hd, w_other _ _ _ _ rfl, w_other _ _ _ _ rfl, w_other _ _ _ _ rfl, w_other _ _ _ _ rfl, w_here]
  have c1 : ∀ vs H, call 97 (vs) H = g1 vs H := fun vs H => by rw [← hd, w_other _ _ _ _ rfl, w_other _ _ _ _ rfl, w_other _ _ _ _ rfl, w_other _ _ _ _ rfl, w_other _ _ _ _ rfl, w_here]
  clear hd
  have hid : ∀ y : List UInt8, ∀ H, call 98 [.s y] H = .val (.b (isIdR y)) H := fun y H => (c2 _ H).trans (s2 y H)
  unfold textR
  cases e2 : (x.kind == 2) with
  | true => rw [if_pos rfl]; exact body_1080u hC x e2 _ fun H => (c1 _ H).trans (s1 _ hs H)
  | false =>
  rw [if_neg (by decide)]
  cases ei : idK x.kind with
  | true => rw [if_pos rfl]; exact body_1080i hC x e2 ei _ (hid _)
  | false =>
  rw [if_neg (by decide)]
  cases e12 : (x.kind == 12) with
  | true => rw [if_pos rfl]; exact body_1080d hC x e2 ei e12 hs hid (hid _)
  | false =>
  rw [if_neg (by decide)]
  obtain ⟨r, hr, hg⟩ := s3 x.text hs
  obtain ⟨a, ha⟩ := ScnV_eq r
  have hsc : ∀ H, call 99 [.s x.text] H = .val (.tup [scL r, .i .i64 a, .i .i64 (scC r)]) H := fun H => by rw [c3, hg, ha]
  cases e19 : (x.kind == 19) with
  | true =>
    rw [if_pos rfl, ← tokB_int' hr]
    have e20 : (x.kind == 20) = false := by rw [beq_eq_false_iff_ne, eq_of_beq e19]; decide
    exact body_1080l hC x e2 ei e12 e19 e20 r a hsc
  | false =>
  rw [if_neg (by decide)]
  cases e20 : (x.kind == 20) with
  | true => rw [if_pos rfl, ← tokB_float' hr]; exact body_1080f hC x e2 ei e12 e19 e20 r a hsc
  | false =>
  rw [if_neg (by decide)]
  have hv : ∀ H, call 47 [.s x.text] H = .val (.b (Lib.validD x.text)) H := fun H => (c4 _ H).trans (s4 _ hs H)
  cases e21 : (x.kind == 21) with
  | true => rw [if_pos rfl]; exact body_1080v hC x e2 ei e12 e19 e20 e21 _ hv
  | false =>
  rw [if_neg (by decide)]
  cases e4 : (x.kind == 4) with
  | true => rw [if_pos rfl]; exact body_1080w hC x e2 ei e12 e19 e20 e21 e4 _ hv
  | false =>
  rw [if_neg (by decide)]
  cases e22 : (x.kind == 22) with
  | true => rw [if_pos rfl]; exact body_1080b hC x e2 ei e12 e19 e20 e21 e4 e22
  | false =>
  rw [if_neg (by decide)]
  cases e36 : (x.kind == 36) with
  | true => rw [if_pos rfl]; exact body_1080n hC x e2 ei e12 e19 e20 e21 e4 e22 e36
  | false =>
  rw [if_neg (by decide)]
  cases e37 : (x.kind == 37) with
  | true => rw [if_pos rfl]; exact body_1080o hC x e2 ei e12 e19 e20 e21 e4 e22 e36 e37 _ (fun H => (c5 _ H).trans (s5 H)) _ fun H => (c6 _ H).trans (s6 _ _ opL_len H)
  | false => rw [if_neg (by decide)]; exact body_1080z hC x e2 ei e12 e19 e20 e21 e4 e22 e36 e37
def nodeR (x : Nd) : Bool := if x.kind < 1 then false else if (56 : Int) < x.kind then false else
  textR x && (!decide ((x.kids.length : Int) < (shapeR x.kind.toNat).1.length) && (nodF (shapeR x.kind.toNat).1 (shapeR x.kind.toNat).2 0 x.kids && more2R x))
theorem shape_len : ∀ k : Nat, (shapeR k).1.length < 100 ∧ (shapeR k).2 < 256 := by
  intro k
  by_cases h : k < 57
  · have := (by decide : ∀ k : Fin 57, (shapeR k.val).1.length < 100 ∧ (shapeR k.val).2 < 256) ⟨k, h⟩
    exact this
  · have : shapeR k = ([], 0) := by
      unfold shapeR
      rw [List.getElem?_eq_none (by show shapeL.length ≤ k; have : shapeL.length = 57 := by decide
                                    omega)]
      rfl
    rw [this]
    exact ⟨by decide, by decide⟩
theorem sp1057 : ∃ g, SpecOK Tryz.prog TT 57 g ∧ ∀ x : Nd, (x.num < NT ∧ x.text.length < NT) → ∀ H, g [x.enc] H = .val (.b (nodeR x)) H := by
  obtain ⟨g1, k1, s1⟩ := sp1080
  obtain ⟨g2, k2, s2⟩ := sp1081
  obtain ⟨g3, k3, s3⟩ := sp1082
  obtain ⟨g4, k4, s4⟩ := sp1083
  obtain ⟨g5, k5, s5⟩ := sp1084
  refine spN 57 (fun x => .b (nodeR x)) (fun x => x.num < NT ∧ x.text.length < NT) (fun _ => rfl) fun x ⟨hn, hs⟩ => ?_
  have hN : NT = 1090000 := rfl
  have hC := ws (ws (ws (ws (ws n0 k1) k2) k3) k4) k5
  generalize hd : ((((CallF.none.with 80 g1).with 81 g2).with 82 g3).with 83 g4).with 84 g5 = call at hC
  have c5 : ∀ vs H, call 84 (vs) H = g5 vs H := fun vs H => by rw [← hd, w_here]
  have c4 : ∀ vs H, call 83 (vs) H = g4 vs H := fun vs H => by rw [← hd, w_other _ _ _ _ rfl, w_here]
  have c3 : ∀ vs H, call 82 (vs) H = g3 vs H := fun vs H => by rw [← hd, w_other _ _ _ _ rfl, w_other _ _ _ _ rfl, w_here]
  have c2 : ∀ vs H, call 81 (vs) H = g2 vs H := fun vs H => by rw [← hd, w_other _ _ _ _ rfl, w_other _ _ _ _ rfl, w_other _ _ _ _ rfl, w_here]
  have c1 : ∀ vs H, call 80 (vs) H = g1 vs H := fun vs H => by rw [← hd, w_other _ _ _ _ rfl, w_other _ _ _ _ rfl, w_other _ _ _ _ rfl, w_other _ _ _ _ rfl, w_here]
  clear hd
  unfold nodeR
  by_cases h1 : x.kind < 1
  · rw [if_pos h1]; exact body_1057lo hC x h1
  rw [if_neg h1]
  by_cases h2 : (56 : Int) < x.kind
  · rw [if_pos h2]; exact body_1057hi hC x h1 h2
  rw [if_neg h2]
  have ht : ∀ H, call 80 [x.enc] H = .val (.b (textR x)) H := fun H => (c1 _ H).trans (s1 x (by omega) H)
  cases et : textR x with
  | false => exact body_1057t hC x h1 h2 fun H => by rw [ht, et]
  | true =>
  rw [Bool.true_and]
  have ht' : ∀ H, call 80 [x.enc] H = .val (.b true) H := fun H => by rw [ht, et]
  obtain ⟨k, hk⟩ : ∃ k : Nat, x.kind = k := ⟨x.kind.toNat, by omega⟩
  have hkk : x.kind.toNat = k := by omega
  have hsh : ∀ H, call 81 [.i .i64 x.kind] H = .val (.tup [.s (shapeR k).1, .i .u8 (shapeR k).2]) H := fun H => by rw [hk, c2]; exact s2 k (by omega) H
  rw [hkk]
  obtain ⟨hl1, hl2⟩ := shape_len k
  by_cases hl : (x.kids.length : Int) < (shapeR k).1.length
  · rw [decide_eq_true hl]; exact body_1057s hC x h1 h2 ht' _ _ hsh hl
  · rw [decide_eq_false hl, Bool.not_false, Bool.true_and]
    have q3 : x.kind = 3 → 4 ≤ x.kids.length := fun e => by
      have : k = 3 := by omega
      subst this
      have : (shapeR 3).1.length = 4 := by decide
      omega
    have q27 : x.kind = 27 → 1 ≤ x.kids.length := fun e => by
      have : k = 27 := by omega
      subst this
      have : (shapeR 27).1.length = 2 := by decide
      omega
    exact body_1057l hC x h1 h2 ht' _ _ hsh hl hl2 hl1 (kids_len hn) (fun y c hc H => (c3 _ H).trans (s3 y c hc H)) (fun y c hc H => (c4 _ H).trans (s4 y c hc H)) _ fun H => (c5 _ H).trans (s5 x ⟨hn, q3, q27⟩ H)
theorem allBL_all (one : Nd → Bool) : ∀ l : List Nd, allBL one l = l.all fun y => allB one y
  | [] => rfl
  | x :: l => by simp [allBL, allBL_all one l]
theorem tok_kid {x y : Nd} (h : x.tok) (hy : y ∈ x.kids) : y.tok := Nd.tok_mem ((Nd.tok_eq x).1 h).2 hy
theorem sp1033 : ∃ g, SpecOK Tryz.prog TT 33 g ∧ ∀ x : Nd, (x.num < NT ∧ x.tok) → ∀ H, g [x.enc] H = .val (.b (allB nodeR x)) H := by
  obtain ⟨g1, k1, s1⟩ := sp1057
  refine spNrec (ws n0 k1) 33 (fun x => .b (allB nodeR x)) (fun x => x.num < NT ∧ x.tok) (fun x y h hy => ⟨num_kid h.1 hy, tok_kid h.2 hy⟩) (fun _ h => h.1) (fun _ => rfl) fun x call hx hC hot hrec => ?_
  have hq : ∀ H, call 57 [x.enc] H = .val (.b (nodeR x)) H := fun H => by rw [hot _ _ _ rfl, w_here]; exact s1 x ⟨hx.1, ((Nd.tok_eq x).1 hx.2).1⟩ H
  rw [allB_eq, allBL_all]
  cases e : nodeR x with
  | false => exact body_1033f hC x (kids_len hx.1) fun H => by rw [hq, e]
  | true => rw [Bool.true_and]; exact body_1033t hC x (kids_len hx.1) (fun H => by rw [hq, e]) _ hrec
theorem sp1017 : ∃ g, SpecOK Tryz.prog TT 17 g ∧ ∀ x : Nd, (x.num < NT ∧ x.tok) → ∀ H, g [x.enc] H = .val (.i .i64 (chkV nodeR x)) H := by
  obtain ⟨g1, k1, s1⟩ := sp1016
  obtain ⟨g2, k2, s2⟩ := sp1033
  refine spN 17 (fun x => .i .i64 (chkV nodeR x)) (fun x => x.num < NT ∧ x.tok) (fun _ => rfl) fun x hx => ?_
  have hC := ws (ws n0 k1) k2
  have hs : ∀ H, ((CallF.none.with 16 g1).with 33 g2) 16 [x.enc] H = .val (.tup [.i .i64 x.num, .i .i64 x.dep]) H := fun H => by rw [w_other _ _ _ _ rfl, w_here]; exact s1 x hx.1 H
  have hq : ∀ H, ((CallF.none.with 16 g1).with 33 g2) 33 [x.enc] H = .val (.b (allB nodeR x)) H := fun H => by rw [w_here]; exact s2 x hx H
  unfold chkV tooL
  by_cases h1 : (4000 : Int) < x.num
  · rw [if_pos (by simp only [decide_eq_true_eq]; omega)]; exact body_1017a hC x _ _ hs h1
  by_cases h2 : (100 : Int) < x.dep
  · rw [if_pos (by simp only [decide_eq_true_eq]; omega)]; exact body_1017b hC x _ _ hs h1 h2
  rw [if_neg (by simp only [decide_eq_true_eq]; omega)]
  cases e : allB nodeR x with
  | false => rw [if_neg (by decide)]; exact body_1017c hC x _ _ hs h1 h2 fun H => by rw [hq, e]
  | true => rw [if_pos rfl]; exact body_1017d hC x _ _ hs h1 h2 fun H => by rw [hq, e]
theorem spT (F : FuncId) (val : List UInt8 → V) (D : List UInt8 → Prop) (hv : ∀ x, nl (val x) = true) (h : ∀ x, D x → EBody Tryz.prog TT F [.s x] (fun r => r = .val (val x))) : ∃ g, SpecOK Tryz.prog TT F g ∧ ∀ x, D x → ∀ H, g [.s x] H = .val (val x) H :=
  spec_val TT_ok TT_plain F (fun x : List UInt8 => [.s x]) D val (fun x _ => by simp [nlL, nl]) hv (fun a b h => by
    simp only [List.cons.injEq, V.s.injEq, and_true] at h; rw [h]) fun x hx => EBody.of2 (h x hx)
theorem sp83p : ∃ g, SpecOK Tryz.prog TT 108 g ∧ ∀ c : Int, True → ∀ H, g [.i .u8 c] H = .val (.b (letR c || (c == 95))) H :=
  spec_val TT_ok TT_plain 108 (fun c : Int => [.i .u8 c]) (fun _ => True) (fun c => .b (letR c || (c == 95))) (fun x _ => by simp [nlL, nl]) (fun _ => rfl) (fun a b h => by simp only [List.cons.injEq, V.i.injEq, true_and, and_true] at h; rw [h]) fun c _ => body_83 n0 c
theorem sp99p : ∃ g, SpecOK Tryz.prog TT 130 g ∧ ∀ c : Int, True → ∀ H, g [.i .u8 c] H = .val (.b (decide (48 ≤ c) && decide (c ≤ 57))) H :=
  spec_val TT_ok TT_plain 130 (fun c : Int => [.i .u8 c]) (fun _ => True) (fun c => .b (decide (48 ≤ c) && decide (c ≤ 57))) (fun x _ => by simp [nlL, nl]) (fun _ => rfl) (fun a b h => by simp only [List.cons.injEq, V.i.injEq, true_and, and_true] at h; rw [h]) fun c _ => body_99 n0 c
theorem worR_eq (b : UInt8) : worR b.toNat = ((letR b.toNat || ((b.toNat : Int) == 95)) || (decide (48 ≤ (b.toNat : Int)) && decide ((b.toNat : Int) ≤ 57))) := by
  have e : decide (0 ≤ digR b.toNat 10) = (decide (48 ≤ (b.toNat : Int)) && decide ((b.toNat : Int) ≤ 57)) := by
    rw [Bool.eq_iff_iff]
    simp only [Bool.and_eq_true, decide_eq_true_eq]
    rw [digR10]
    unfold digB
    omega
  unfold worR
  rw [e]
  cases letR b.toNat <;> cases ((b.toNat : Int) == 95) <;> simp
theorem sp84p : ∃ g, SpecOK Tryz.prog TT 109 g ∧ ∀ b : UInt8, True → ∀ H, g [.i .u8 b.toNat] H = .val (.b (worR b.toNat)) H := by
  obtain ⟨g3, hg3, hs3⟩ := sp83p
  obtain ⟨g9, hg9, hs9⟩ := sp99p
  refine spec_val TT_ok TT_plain 109 (fun b : UInt8 => [.i .u8 b.toNat]) (fun _ => True) (fun b => .b (worR b.toNat)) (fun x _ => by simp [nlL, nl]) (fun _ => rfl) (fun a b h => by
    simp only [List.cons.injEq, V.i.injEq, true_and, and_true] at h; rw [h]) fun c _ => ?_
  rw [worR_eq]
  exact body_84 (ws (ws n0 hg3) hg9) c.toNat _ _ (fun H => by rw [w_other _ _ _ _ rfl, w_here]; exact hs3 _ trivial H) (fun H => by rw [w_here]; exact hs9 _ trivial H)
theorem sp71p : ∃ g, SpecOK Tryz.prog TT 89 g ∧ ∀ s : List UInt8, s.length < NT → ∀ H, g [.s s] H = .val (.i .i64 (idR s 0 : Nat)) H := by
  obtain ⟨g3, hg3, hs3⟩ := sp83p
  obtain ⟨g4, hg4, hs4⟩ := sp84p
  refine spT 89 (fun s => .i .i64 (idR s 0 : Nat)) (fun s => s.length < NT) (fun _ => rfl) fun s hs => ?_
  have hN : NT = 1090000 := rfl
  have hC := ws (ws n0 hg3) hg4
  cases s with
  | nil => exact body_71pn hC
  | cons c r =>
    have h83 : ∀ H, ((CallF.none.with 108 g3).with 109 g4) 108 [.i .u8 c.toNat] H = .val (.b (letR c.toNat || ((c.toNat : Int) == 95))) H := fun H => by rw [w_other _ _ _ _ rfl, w_here]; exact hs3 _ trivial H
    have hat : atR (c :: r) 0 = c.toNat := rfl
    cases hl : (letR c.toNat || ((c.toNat : Int) == 95)) with
    | false =>
      have e : idR (c :: r) 0 = 0 := by
        unfold idR
        rw [hat, if_pos]
        rw [Bool.or_eq_false_iff] at hl
        simp only [Bool.and_eq_true, Bool.not_eq_true', bne_iff_ne]
        exact ⟨hl.1, by have := hl.2; rw [beq_eq_false_iff_ne] at this; exact this⟩
      rw [e]
      exact body_71pf hC c r fun H => by rw [h83, hl]
    | true =>
      have hw : worR c.toNat = true := by rw [worR_eq, hl]; rfl
      have e : idR (c :: r) 0 = 1 + runW r + runQ (r.drop (runW r)) := by
        unfold idR
        rw [hat, if_neg]
        · simp only [List.drop_zero, Nat.zero_add]
          have e2 : runW (c :: r) = runW r + 1 := by simp only [runW, hw, if_true]
          rw [e2, List.drop_succ_cons]
          omega
        · intro h
          simp only [Bool.and_eq_true, Bool.not_eq_true', bne_iff_ne] at h
          rw [h.1, Bool.false_or, beq_iff_eq] at hl
          exact h.2 hl
      rw [e]
      exact body_71pt hC c r (by simp at hs ⊢; omega) (fun b H => by rw [w_here]; exact hs4 b trivial H) fun H => by rw [h83, hl]
theorem kw_eq (s : List UInt8) : kw s = (kwL.any fun x => x == s) := by
  have e : kwWords = kwL := by decide
  unfold kw
  rw [e, List.contains_eq_any_beq]
  congr 1
  funext x
  rw [Bool.eq_iff_iff]
  simp only [beq_iff_eq]
  exact ⟨fun h => h.symm, fun h => h.symm⟩
theorem sp52p : ∃ g, SpecOK Tryz.prog TT 65 g ∧ ∀ s : List UInt8, s.length < NT → ∀ H, g [.s s] H = .val (.b ((!s.isEmpty) && (((idR s 0 : Nat) : Int) == s.length) && !kw s)) H := by
  obtain ⟨g1, hg1, hs1⟩ := sp71p
  refine spec_val TT_ok TT_plain 65 (fun x : List UInt8 => [.s x]) (fun s => s.length < NT) (fun s => .b ((!s.isEmpty) && (((idR s 0 : Nat) : Int) == s.length) && !kw s)) (fun x _ => by simp [nlL, nl]) (fun _ => rfl) (fun a b h => by
    simp only [List.cons.injEq, V.s.injEq, and_true] at h; rw [h]) fun s hs => ?_
  exact body_52 (ws (ws n0 hg1) ok72) s _ (fun H => by rw [w_other _ _ _ _ rfl, w_here]; exact hs1 s hs H) (by rw [w_here]; rfl) (kw_lookup s)
theorem sp26p : ∃ g, SpecOK Tryz.prog TT 41 g ∧ ∀ s : List UInt8, True → ∀ H, g [.s s] H = .val (.b (isIdR s)) H := by
  obtain ⟨g1, hg1, hs1⟩ := sp52p
  have hN : NT = 1090000 := rfl
  refine spec_val TT_ok TT_plain 41 (fun x : List UInt8 => [.s x]) (fun s => True) (fun s => .b (isIdR s)) (fun x _ => by simp [nlL, nl]) (fun _ => rfl) (fun a b h => by
    simp only [List.cons.injEq, V.s.injEq, and_true] at h; rw [h]) fun s _ => ?_
  cases h : decide ((s.length : Int) ≤ 60) with
  | false =>
    have h2 : ¬ s.length ≤ 60 := by rw [decide_eq_false_iff_not] at h; omega
    have e : isIdR s = false := by simp only [isIdR, decide_eq_false h2, Bool.false_and, Bool.and_false]
    rw [e]
    exact body_26b n0 s h
  | true =>
    have h2 : s.length ≤ 60 := by rw [decide_eq_true_eq] at h; omega
    have e : isIdR s = ((!s.isEmpty) && (((idR s 0 : Nat) : Int) == s.length) && !kw s) := by
      simp only [isIdR, decide_eq_true h2, Bool.true_and, kw_eq]
      cases s <;> simp
    rw [e]
    exact body_26a (ws n0 hg1) s _ h fun H => by rw [w_here]; exact hs1 s (by omega) H
theorem sp28p : ∃ g, SpecOK Tryz.prog TT 43 g ∧ ∀ s : List UInt8, True → ∀ H, g [.s s] H = .val (.b (s == [])) H :=
  spec_val TT_ok TT_plain 43 (fun x : List UInt8 => [.s x]) (fun s => True) (fun s => .b (s == [])) (fun x _ => by simp [nlL, nl]) (fun _ => rfl) (fun a b h => by
    simp only [List.cons.injEq, V.s.injEq, and_true] at h; rw [h]) fun s _ => body_28 n0 s
theorem sp34p : ∃ g, SpecOK Tryz.prog TT 48 g ∧ ∀ s : List UInt8, s.length < NT → ∀ H, g [.s s] H = .val (.b (integerN s)) H := by
  obtain ⟨g, hg, hs⟩ := sp60
  refine spT 48 (fun s => .b (integerN s)) (fun s => s.length < NT) (fun _ => rfl) fun s h => ?_
  cases s with
  | nil => exact body_34pa (ws n0 hg) fun H => by rw [w_here]; exact hs [] (by decide) H
  | cons c r =>
    have e : integerN (c :: r) = (digitsN (c :: r) && (((c :: r) == [48]) || ((c.toNat : Int) != 48)) && (decide ((r.length : Int) + 1 < 39) || (((r.length : Int) + 1 == 39) && (Op.bytesLess (c :: r) maxS || ((c :: r) == maxS))))) := by
      have e1 : ((c :: r).head? != some 48) = ((c.toNat : Int) != 48) := by
        rw [Bool.eq_iff_iff]
        simp only [List.head?_cons, bne_iff_ne, ne_eq, Option.some.injEq]
        constructor
        · intro h e; exact h (u8_inj (by simp; omega))
        · intro h e; subst e; exact h rfl
      have e2 : decide ((c :: r).length < 39) = decide ((r.length : Int) + 1 < 39) := by
        rw [Bool.eq_iff_iff]; simp only [decide_eq_true_eq, List.length_cons]; omega
      have e3 : ((c :: r).length == 39) = ((r.length : Int) + 1 == 39) := by
        rw [Bool.eq_iff_iff]; simp only [beq_iff_eq, List.length_cons]; omega
      unfold integerN
      rw [e1, e2, e3]
    rw [e]
    exact body_34pb (ws n0 hg) c r _ fun H => by rw [w_here]; exact hs (c :: r) h H
theorem sp76p : ∃ g, SpecOK Tryz.prog TT 94 g ∧ ∀ p : List UInt8 × UInt8, p.1.length < NT → ∀ H, g [.s p.1, .s [p.2]] H = .val (.tup [.s (cutV p.1 p.2).1, .s (cutV p.1 p.2).2.1, .b (cutV p.1 p.2).2.2]) H :=
  spec_val TT_ok TT_plain 94 (fun p : List UInt8 × UInt8 => [.s p.1, .s [p.2]]) (fun p => p.1.length < NT) (fun p => .tup [.s (cutV p.1 p.2).1, .s (cutV p.1 p.2).2.1, .b (cutV p.1 p.2).2.2]) (fun x _ => by simp [nlL, nl]) (fun _ => by simp [nlL, nl]) (fun a b h => by
    simp only [List.cons.injEq, V.s.injEq, and_true] at h; rw [h.1, h.2]) (fun p hl => by
    obtain ⟨s, c⟩ := p
    have hN : NT = 1090000 := rfl
    simp only at hl ⊢
    apply EBody.of2
    rcases indexByte_cases s c with h | ⟨n, h, hlt⟩
    · have e : cutV s c = (s, [], false) := by unfold cutV; rw [h, if_neg (by decide)]
      rw [e]
      exact body_76pa (ws n0 ok95) s c (by rw [h]; rfl) fun H => by rw [w_here]; rfl
    · have e : cutV s c = (s.take n, s.drop (n + 1), true) := by unfold cutV; rw [h, if_pos (by omega)]; simp
      rw [e]
      exact body_76pb (ws n0 ok95) s c n h hlt (by omega) (by omega) (by omega) (wrap_i64 (by omega) (by omega)) fun H => by rw [w_here, ← h]; rfl)
theorem sp61p : ∃ g, SpecOK Tryz.prog TT 74 g ∧ ∀ p : List UInt8 × UInt8, p.1.length < NT → ∀ H, g [.s p.1, .s [p.2]] H = .val (.tup [.s (cutV p.1 p.2).1, .s (cutV p.1 p.2).2.1, .b (cutV p.1 p.2).2.2]) H := by
  obtain ⟨g6, hg6, hs6⟩ := sp76p
  exact spec_val TT_ok TT_plain 74 (fun p : List UInt8 × UInt8 => [.s p.1, .s [p.2]]) (fun p => p.1.length < NT) (fun p => .tup [.s (cutV p.1 p.2).1, .s (cutV p.1 p.2).2.1, .b (cutV p.1 p.2).2.2]) (fun x _ => by simp [nlL, nl]) (fun _ => by simp [nlL, nl]) (fun a b h => by
    simp only [List.cons.injEq, V.s.injEq, and_true] at h; rw [h.1, h.2]) fun p hl => body_61 (ws n0 hg6) p.1 p.2 _ _ _ fun H => by rw [w_here]; exact hs6 p hl H
theorem cutV_le (s : List UInt8) (c : UInt8) : (cutV s c).1.length ≤ s.length ∧ (cutV s c).2.1.length ≤ s.length := by
  unfold cutV
  split
  · exact ⟨by simp; omega, by simp⟩
  · exact ⟨Nat.le_refl _, by simp⟩
theorem sp35p : ∃ g, SpecOK Tryz.prog TT 49 g ∧ ∀ s : List UInt8, s.length < NT → ∀ H, g [.s s] H = .val (.b (floatN s)) H := by
  obtain ⟨g1, hg1, hs1⟩ := sp61p
  obtain ⟨g0, hg0, hs0⟩ := sp60
  refine spT 49 (fun s => .b (floatN s)) (fun s => s.length < NT) (fun _ => rfl) fun s hl => ?_
  have hC := ws (ws (ws n0 hg1) hg0) ok62
  generalize hd : ((CallF.none.with 74 g1).with 73 g0).with 75 spContains1 = call at hC
  have c3 : ∀ vs H, call 75 (vs) H = spContains1 vs H := fun vs H => by rw [← hd, w_here]
  have c2 : ∀ vs H, call 73 (vs) H = g0 vs H := fun vs H => by rw [← hd, w_other _ _ _ _ rfl, w_here]
  have c1 : ∀ vs H, call 74 (vs) H = g1 vs H := fun vs H => by rw [← hd, w_other _ _ _ _ rfl, w_other _ _ _ _ rfl, w_here]
  clear hd
  unfold floatN
  cases h : decide ((20000 : Int) < s.length) with
  | true => exact body_35pl hC s h
  | false =>
    rw [Bool.not_false, Bool.true_and]
    obtain ⟨la, lb⟩ := cutV_le s 101
    obtain ⟨la2, lb2⟩ := cutV_le (cutV s 101).1 46
    have h1 : ∀ H, call 74 [.s s, .s [101]] H = .val (.tup [.s (cutV s 101).1, .s (cutV s 101).2.1, .b (cutV s 101).2.2]) H := fun H => (c1 _ H).trans (hs1 (s, 101) hl H)
    have h2 : ∀ H, call 74 [.s (cutV s 101).1, .s [46]] H = .val (.tup [.s (cutV (cutV s 101).1 46).1, .s (cutV (cutV s 101).1 46).2.1, .b (cutV (cutV s 101).1 46).2.2]) H := fun H => (c1 _ H).trans (hs1 ((cutV s 101).1, 46) (Nat.lt_of_le_of_lt la hl) H)
    have kd : ∀ u : List UInt8, u.length < NT → ∀ H, call 73 [.s u] H = .val (.b (digitsN u)) H := fun u hu H => (c2 _ H).trans (hs0 u hu H)
    have kc : ∀ (c : UInt8) H, call 75 [.s [43, 45], .s [c]] H = .val (.b (decide (0 ≤ Lib.indexByte [43, 45] c))) H := fun c H => by rw [c3]; rfl
    have da := kd (cutV (cutV s 101).1 46).1 (by omega)
    have db := kd (cutV (cutV s 101).1 46).2.1 (by omega)
    generalize cutV (cutV s 101).1 46 = p at h2 da db
    generalize hu : cutV s 101 = u at h1 h2 la lb
    obtain ⟨a, b, f⟩ := u
    obtain ⟨a2, b2, f2⟩ := p
    simp only at h1 h2 la lb da db ⊢
    cases f with
    | false =>
      have := body_35pnf hC s _ kc a2 b2 f2 _ _ da db b a h h1 h2
      simpa using this
    | true =>
      cases b with
      | nil =>
        have hz : digitsN [] = false := rfl
        have := body_35pef hC s _ kc a2 b2 f2 _ _ da db (fun H => by rw [kd [] (by decide), hz]) a h h1 h2
        simpa [unsg, hz] using this
      | cons c r =>
        cases hsg : decide (0 ≤ Lib.indexByte [43, 45] c) with
        | false =>
          have eu : unsg (c :: r) = c :: r := by simp only [unsg, hsg]; rfl
          rw [eu]
          have dd := kd (c :: r) (by omega)
          cases hq : digitsN (c :: r) with
          | false =>
            have := body_35pcf hC s _ kc a2 b2 f2 _ _ da db c r (fun H => by rw [dd, hq]) (by omega) a h h1 hsg h2
            simpa using this
          | true =>
            have := body_35pct hC s _ kc a2 b2 f2 _ _ da db c r (fun H => by rw [dd, hq]) (by omega) a h h1 hsg h2
            simpa using this
        | true =>
          have eu : unsg (c :: r) = r := by simp only [unsg, hsg]; rfl
          rw [eu]
          have dd := kd r (by simp at lb; omega)
          cases hq : digitsN r with
          | false =>
            have := body_35pdf hC s _ kc a2 b2 f2 _ _ da db c r (fun H => by rw [dd, hq]) (by omega) a h h1 hsg h2
            simpa using this
          | true =>
            have := body_35pdt hC s _ kc a2 b2 f2 _ _ da db c r (fun H => by rw [dd, hq]) (by omega) a h h1 hsg h2
            simpa using this
end Go.Ev
