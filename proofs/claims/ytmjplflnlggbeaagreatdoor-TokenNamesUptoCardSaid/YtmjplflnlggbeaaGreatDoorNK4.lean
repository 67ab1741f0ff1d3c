/- Walks over the end of a name. Walks over the counts of nodes. Contracts of functions of the library of Go, as answers for the evaluator. Walks over the looks at names. Walks over a name in the program. Walks over the look at a kind. The set of keywords, by a run of the evaluator. Walks over the look at a node by its kind. Walks over the end of a name, the whole. A byte at a place, a text at a place, the end of a name. The keywords and symbols of the reference. What a name is, as the reference sees it. Walks over digits. Walks over a number times a base. Walks over a number times a base, the whole. Numbers in decimal digits, and which is above another. Walks over the value of digits. The value of digits, in decimal digits. Walks over parts of a number. The exponent of a number. The exponent of a number, the whole. The fraction of a number. The end of a number. A number at a place: the walk. A number at a place. Walks over a comment of a line. Walks over a comment. Walks over blanks and comments. Walks over blanks and comments, the whole. Blanks and comments at a place. A string of the second kind. Walks over a literal with marks. A literal with marks. Walks over an escape. The end of an escape. An escape: the walk. Escapes, literals and names of the reference. The decimal digits of a number, as an answer for the evaluator. Walks over the symbols. Walks over a token at a place. Where a token at a place ends. The token at a place. Walks over the tokens of a text. The tokens of a text: the walk. The tokens of a text. A text that is a number is one token. Bytes and names: letter, digit, part, word, ident, IsIdent. The scanner's faults, as values. Walks: must. What must and value return. -/
import Derived.Test.YtmjplflnlggbeaaGreatDoorNWB
import Derived.Test.YtmjplflnlggbeaaGreatDoorNEvMapR
import Derived.Shelf.Strings.Split
import Derived.Shelf.Strings.SlTrimAscii
import Derived.Shelf.Unicode.ValidAny
import Derived.Shelf.LaysM
import Derived.Shelf.Strconv.Itoa3
import Derived.Test.YtmjplflnlggbeaaGreatDoorNSy3
import Derived.Test.YtmjplflnlggbeaaGreatDoorNEvIter5
namespace Go.Ev
open Go Go.Proofs
set_option linter.unusedSimpArgs false
set_option linter.unusedVariables false
set_option linter.unnecessarySimpa false
set_option maxRecDepth 100000
theorem loop1124 {call : CallF} (hC : call.Sound Tryz.prog TT) (s : List UInt8) {Q : Out → Prop} : ∀ (L pre : List (List UInt8)) (t : Tm) (H : Heap), (pre ++ L).length < 1100000 → t.wid = 18 → t.get 0 = .isl 1 (encS (pre ++ L)) → t.get 1 = .s s → t.get 5 = .i .i64 pre.length →
    (∀ t' H', t'.wid = 18 → (L.any fun x => x == s) = false → Q (.exit 0 t' H')) → (∀ t' H', t'.wid = 18 → (L.any fun x => x == s) = true → t'.get 4 = .b true → Q (.ret t' H')) →
    LTri Tryz.prog TT (sub [true, false, true, false, false] (bodyOf Tryz.f42)) t H Q := by
 intro L
 induction L with
 | nil =>
   intro pre t H hlen hw h0 h1 h5 hE hR
   have hF := ai @h0 (ai @h1 (ai @h5 @encS_length))
   refine LTri.round' ?_
   apply sQ
   apply rS hC
   · iterate 4 refine oA ?_
     rfl
   refine cF (by simp [hF] <;> rfl) ?_
   refine Tri.exit ?_
   refine inSeq_exit ?_
   refine inLoop_exit ?_
   exact hE _ _ (by simp [hw]) (by simp)
 | cons x L ih =>
   intro pre t H hlen hw h0 h1 h5 hE hR
   have hlt := fin_len pre.length L.length
   have hat := encS_at pre x L
   have hat2 := encS_at2 pre x L
   cases hq : (x == s) with
   | true =>
     have hF := ai @h0 (ai @h1 (ai @h5 (ai @encS_length (ai @hlt (ai @hat (ai @hat2 @hq))))))
     refine LTri.round' ?_
     apply sQ
     apply rS hC
     · iterate 4 refine oA ?_
       rfl
     refine cT (by simp [hF] <;> rfl) ?_
     apply Tri.skip
     apply sN
     apply sQ
     apply bK
     apply rS hC
     · iterate 6 refine oA ?_
       rfl
     refine cT (by simp [hF] <;> rfl) ?_
     apply rS hC
     · refine oA ?_
       rfl
     apply Tri.ret
     apply bR
     apply sR
     refine inLoop_ret ?_
     exact hR _ _ (by simp [hw]) (by simp [hq]) (by simp)
   | false =>
     have hF := ai @h0 (ai @h1 (ai @h5 (ai @encS_length (ai @hlt (ai @hat (ai @hat2 @hq))))))
     refine LTri.round' ?_
     apply sQ
     apply rS hC
     · iterate 4 refine oA ?_
       rfl
     refine Tri.condG (o := ?on2) (b := ?bn2) ?gn2 ?rn2 ?yn2 ?nn2
     case gn2 => simp [hF] <;> rfl
     case rn2 => rfl
     case yn2 =>
      intro hy2
      apply Tri.skip
      apply sN
      apply sQ
      apply bK
      apply rS hC
      · iterate 6 refine oA ?_
        rfl
      refine cF (by simp [hF] <;> rfl) ?_
      apply Tri.skip
      apply bN
      apply sN
      apply rN hC
      · iterate 3 refine oA ?_
        rfl
      refine inLoop_norm ?_
      refine ih (pre ++ [x]) _ _ (by simpa using hlen) (by simp [hw]) (by simp [h0]) (by simp [h1]) (by simp; exact wrap_i64 (by omega) (by simp at hlen; omega)) (fun t' H' k1 k2 => hE t' H' k1 (by simp [hq, k2])) (fun t' H' k1 k2 => hR t' H' k1 (by simp [k2]))
     case nn2 =>
      intro hn2
      exfalso
      simp at hn2

theorem body_1124 {call : CallF} (hC : call.Sound Tryz.prog TT) (l : List (List UInt8)) (s : List UInt8) (hlen : l.length < 1100000)  : EBody Tryz.prog TT 42 [.isl 1 (encS l), .s s] (fun r => r = .val (.b (l.any fun x => x == s))) := by
 refine en Tryz.f42 rfl rfl (by simp [Tryz.f42]) 18 rfl fun t hw hg => ?_
 have h0 := hg 0 _ rfl
 have h1 := hg 1 _ rfl
 clear hg
 try simp only [Nd.enc_eq] at *
 have hF := ai @h0 (ai @h1 @encS_length)
 apply rS hC
 · refine oA ?_
   rfl
 apply sQ
 apply rS hC
 · refine oA ?_
   rfl
 apply bK
 refine Tri.loop ?_
 refine loop1124 hC s l [] _ _ (by simpa using hlen) (by simp [hw]) (by simp [h0]) (by simp [h1]) (by simp) ?exit ?ret
 case exit =>
  intro t2 H2 hw hr
  have h4 : True := trivial
  refine inBlk_exit ?_
  apply sN
  apply rS hC
  · refine oA ?_
    rfl
  apply Tri.ret
  rw [hr]
  refine endsE (by simp [Tryz.f42, h4] <;> rfl) (by rfl) ?_
  rfl
 case ret =>
  intro t2 H2 hw hr h4
  apply bR
  apply sR
  rw [hr]
  refine endsE (by simp [Tryz.f42, h4] <;> rfl) (by rfl) ?_
  rfl
def runW : List UInt8 → Nat
  | [] => 0
  | b :: l => if worR b.toNat = true then runW l + 1 else 0
def runQ : List UInt8 → Nat
  | [] => 0
  | b :: l => if (b == 39) = true then runQ l + 1 else 0
theorem runW_le : ∀ l, runW l ≤ l.length
  | [] => Nat.le_refl _
  | b :: l => by
    have := runW_le l
    simp only [runW, List.length_cons]
    split <;> omega
theorem runQ_le : ∀ l, runQ l ≤ l.length
  | [] => Nat.le_refl _
  | b :: l => by
    have := runQ_le l
    simp only [runQ, List.length_cons]
    split <;> omega
def idR (s : List UInt8) (i : Nat) : Nat := if (!(letR (atR s i)) && (atR s i != 95)) = true then i else i + runW (s.drop i) + runQ (s.drop (i + runW (s.drop i)))
theorem str_at (d : List UInt8) (b : UInt8) (r : List UInt8) : (d ++ b :: r)[d.length]? = some b := by simp
theorem str_at2 (d : List UInt8) (b : UInt8) (r : List UInt8) : ∀ h, (d ++ b :: r)[d.length]'h = b := fun h => by simp
theorem u8_eq (a b : UInt8) : (a == b) = ((a.toNat : Int) == (b.toNat : Int)) := by
  by_cases h : a = b
  · subst h; simp
  · have : ¬ (a.toNat : Int) = b.toNat := fun e => h (UInt8.toNat.inj (by omega))
    rw [beq_eq_false_iff_ne.2 h, beq_eq_false_iff_ne.2 this]
theorem loop1123_0 {call : CallF} (hC : call.Sound Tryz.prog TT) {Q : Out → Prop} : ∀ (L pre : List UInt8) (t : Tm) (H : Heap), (pre ++ L).length < 1000000000 → t.wid = 42 → t.get 0 = .s (pre ++ L) → t.get 1 = .i .i64 pre.length → (∀ b : UInt8, ∀ H, call 63 [.i .u8 b.toNat] H = .val (.b (worR b.toNat)) H) →
    (∀ (t' : Tm) (H' : Heap), t'.wid = 42 → t'.get 0 = .s (pre ++ L) → t'.get 1 = .i .i64 ((pre.length + runW L : Nat) : Int) → Q (.exit 0 t' H')) →
    LTri Tryz.prog TT (sub [true, true, false, false, false] (bodyOf Tryz.f41)) t H Q := by
 intro L
 induction L with
 | nil =>
   intro pre t H hlen hw h0 h1 hcall hE
   refine LTri.round' ?_
   apply sQ
   apply rS hC
   · iterate 5 refine oA ?_
     iterate 4 refine oC ?_
     refine oA ?_
     rfl
   refine cF (by simp [h0, h1] <;> rfl) ?_
   refine Tri.exit ?_
   refine inSeq_exit ?_
   refine inLoop_exit ?_
   exact hE _ _ (by simp [hw]) (by simp [h0]) (by simp [h1, runW])
 | cons b L ih =>
   intro pre t H hlen hw h0 h1 hcall hE
   have hlt := fin_len pre.length L.length
   have hat := str_at pre b L
   have hat2 := str_at2 pre b L
   have hq1 : ∀ v, worR b.toNat = v → ∀ H, call 63 [.i .u8 b.toNat] H = .val (.b v) H := fun v e H => by rw [← e]; exact hcall b H
   cases hq2 : worR b.toNat with
   | true =>
     have hq := hq1 _ hq2
     have hF := ai @h0 (ai @h1 (ai @hlt (ai @hat (ai @hat2 @hq))))
     refine LTri.round' ?_
     apply sQ
     apply rS hC
     · iterate 5 refine oA ?_
       iterate 4 refine oB ?_
       refine oA ?_
       rfl
     refine cT (by simp [hF] <;> rfl) ?_
     apply Tri.skip
     apply sN
     apply bK
     apply rN hC
     · iterate 3 refine oA ?_
       rfl
     apply bN
     refine inLoop_norm ?_
     refine ih (pre ++ [b]) _ _ (by simpa using hlen) (by simp [hw]) (by simp [h0]) (by simp; exact wrap_i64 (by omega) (by simp at hlen; omega)) hcall (fun t' H' k1 k2 k3 => hE t' H' k1 (by simpa using k2) (by rw [k3]; simp [runW, hq2, Int.add_assoc, Int.add_comm, Int.add_left_comm]))
   | false =>
     have hq := hq1 _ hq2
     have hF := ai @h0 (ai @h1 (ai @hlt (ai @hat (ai @hat2 @hq))))
     refine LTri.round' ?_
     apply sQ
     apply rS hC
     · iterate 5 refine oA ?_
       iterate 4 refine oB ?_
       refine oA ?_
       rfl
     refine cF (by simp [hF] <;> rfl) ?_
     refine Tri.exit ?_
     refine inSeq_exit ?_
     refine inLoop_exit ?_
     exact hE _ _ (by simp [hw]) (by simp [h0]) (by simp [h1, runW, hq2])

theorem loop1123_1 {call : CallF} (hC : call.Sound Tryz.prog TT) {Q : Out → Prop} : ∀ (L pre : List UInt8) (t : Tm) (H : Heap), (pre ++ L).length < 1000000000 → t.wid = 42 → t.get 0 = .s (pre ++ L) → t.get 1 = .i .i64 pre.length →
    (∀ (t' : Tm) (H' : Heap), t'.wid = 42 → t'.get 0 = .s (pre ++ L) → t'.get 1 = .i .i64 ((pre.length + runQ L : Nat) : Int) → Q (.exit 2 t' H')) →
    LTri Tryz.prog TT (sub [true, true, true, false, false, false] (bodyOf Tryz.f41)) t H Q := by
 intro L
 induction L with
 | nil =>
   intro pre t H hlen hw h0 h1 hE
   refine LTri.round' ?_
   apply sQ
   apply rS hC
   · iterate 5 refine oA ?_
     iterate 4 refine oC ?_
     refine oA ?_
     rfl
   refine cF (by simp [h0, h1] <;> rfl) ?_
   refine Tri.exit ?_
   refine inSeq_exit ?_
   refine inLoop_exit ?_
   exact hE _ _ (by simp [hw]) (by simp [h0]) (by simp [h1, runQ])
 | cons b L ih =>
   intro pre t H hlen hw h0 h1 hE
   have hlt := fin_len pre.length L.length
   have hat := str_at pre b L
   have hat2 := str_at2 pre b L
   have hq1 : ∀ v, (b == 39) = v → (((b.toNat : Int) == 39) = v) := fun v e => by rw [← e, u8_eq b 39]; rfl
   cases hq2 : (b == 39) with
   | true =>
     have hq := hq1 _ hq2
     have hF := ai @h0 (ai @h1 (ai @hlt (ai @hat (ai @hat2 @hq))))
     refine LTri.round' ?_
     apply sQ
     apply rS hC
     · iterate 5 refine oA ?_
       iterate 4 refine oB ?_
       refine oA ?_
       rfl
     refine cT (by simp [hF] <;> rfl) ?_
     apply Tri.skip
     apply sN
     apply bK
     apply rN hC
     · iterate 3 refine oA ?_
       rfl
     apply bN
     refine inLoop_norm ?_
     refine ih (pre ++ [b]) _ _ (by simpa using hlen) (by simp [hw]) (by simp [h0]) (by simp; exact wrap_i64 (by omega) (by simp at hlen; omega)) (fun t' H' k1 k2 k3 => hE t' H' k1 (by simpa using k2) (by rw [k3]; simp [runQ, hq2, Int.add_assoc, Int.add_comm, Int.add_left_comm]))
   | false =>
     have hq := hq1 _ hq2
     have hF := ai @h0 (ai @h1 (ai @hlt (ai @hat (ai @hat2 @hq))))
     refine LTri.round' ?_
     apply sQ
     apply rS hC
     · iterate 5 refine oA ?_
       iterate 4 refine oB ?_
       refine oA ?_
       rfl
     refine cF (by simp [hF] <;> rfl) ?_
     refine Tri.exit ?_
     refine inSeq_exit ?_
     refine inLoop_exit ?_
     exact hE _ _ (by simp [hw]) (by simp [h0]) (by simp [h1, runQ, hq2])


end Go.Ev
namespace Go.Proofs
def Tryz.lays196_ren : Go.Shelf.Ren := ⟨fun | 196 => 36 | 259 => 66 | n => n, fun | 9 => 9 | 4 => 4 | 3 => 3 | 5 => 5 | 12 => 12 | 119 => 99 | 0 => 0 | 46 => 72 | 139 => 102 | 138 => 101 | 53 => 119 | n => n, fun | 3 => 1 | 4 => 2 | n => n⟩
theorem Tryz.lays196 : Go.Proofs.Lays.n196 Tryz.prog Tryz.lays196_ren := {
  mixed := by kernel_rfl
  f196 := Tryz.func36.trans (congrArg some (by kernel_rfl))
  f259 := Tryz.func66.trans (congrArg some (by kernel_rfl))
  t0 := Tryz.underlying0
  a0 := Tryz.isAgg0
  z0 := Tryz.sizeOf0
  v0 := Tryz.zeroValue0
  t3 := Tryz.underlying3
  a3 := Tryz.isAgg3
  z3 := Tryz.sizeOf3
  v3 := Tryz.zeroValue3
  t4 := Tryz.underlying4
  a4 := Tryz.isAgg4
  z4 := Tryz.sizeOf4
  v4 := Tryz.zeroValue4
  t5 := Tryz.underlying5
  a5 := Tryz.isAgg5
  z5 := Tryz.sizeOf5
  v5 := Tryz.zeroValue5
  t9 := Tryz.underlying9
  a9 := Tryz.isAgg9
  z9 := Tryz.sizeOf9
  v9 := Tryz.zeroValue9
  t12 := Tryz.underlying12
  a12 := Tryz.isAgg12
  z12 := Tryz.sizeOf12
  v12 := Tryz.zeroValue12
  t46 := Tryz.underlying72
  a46 := Tryz.isAgg72
  z46 := Tryz.sizeOf72
  v46 := Tryz.zeroValue72
  t53 := Tryz.underlying119
  a53 := Tryz.isAgg119
  z53 := Tryz.sizeOf119
  v53 := Tryz.zeroValue119
  t119 := Tryz.underlying99
  a119 := Tryz.isAgg99
  z119 := Tryz.sizeOf99
  t138 := Tryz.underlying101
  a138 := Tryz.isAgg101
  z138 := Tryz.sizeOf101
  v138 := Tryz.zeroValue101
  t139 := Tryz.underlying102
  a139 := Tryz.isAgg102
  z139 := Tryz.sizeOf102
  v139 := Tryz.zeroValue102
  g3 := by kernel_rfl
  g4 := by kernel_rfl }
def Tryz.lays143_ren : Go.Shelf.Ren := ⟨fun | 143 => 35 | 219 => 65 | 217 => 87 | 225 => 88 | 224 => 89 | 267 => 90 | 266 => 105 | 314 => 106 | n => n, fun | 9 => 9 | 3 => 3 | 4 => 4 | 5 => 5 | 46 => 72 | 146 => 154 | 51 => 125 | n => n, fun | 1 => 4 | n => n⟩
theorem Tryz.lays143 : Go.Proofs.Lays.n143 Tryz.prog Tryz.lays143_ren := {
  mixed := by kernel_rfl
  f143 := Tryz.func35.trans (congrArg some (by kernel_rfl))
  f217 := Tryz.func87.trans (congrArg some (by kernel_rfl))
  f219 := Tryz.func65.trans (congrArg some (by kernel_rfl))
  f224 := Tryz.func89.trans (congrArg some (by kernel_rfl))
  f225 := Tryz.func88.trans (congrArg some (by kernel_rfl))
  f266 := Tryz.func105.trans (congrArg some (by kernel_rfl))
  f267 := Tryz.func90.trans (congrArg some (by kernel_rfl))
  f314 := Tryz.func106.trans (congrArg some (by kernel_rfl))
  t3 := Tryz.underlying3
  a3 := Tryz.isAgg3
  z3 := Tryz.sizeOf3
  v3 := Tryz.zeroValue3
  t4 := Tryz.underlying4
  a4 := Tryz.isAgg4
  z4 := Tryz.sizeOf4
  v4 := Tryz.zeroValue4
  t5 := Tryz.underlying5
  a5 := Tryz.isAgg5
  z5 := Tryz.sizeOf5
  v5 := Tryz.zeroValue5
  t9 := Tryz.underlying9
  a9 := Tryz.isAgg9
  z9 := Tryz.sizeOf9
  v9 := Tryz.zeroValue9
  t46 := Tryz.underlying72
  a46 := Tryz.isAgg72
  z46 := Tryz.sizeOf72
  v46 := Tryz.zeroValue72
  t51 := Tryz.underlying125
  a51 := Tryz.isAgg125
  z51 := Tryz.sizeOf125
  v51 := Tryz.zeroValue125
  t146 := Tryz.underlying154
  a146 := Tryz.isAgg154
  z146 := Tryz.sizeOf154
  v146 := Tryz.zeroValue154
  g1 := by kernel_rfl }
def Tryz.lays144_ren : Go.Shelf.Ren := ⟨fun | 144 => 15 | 143 => 35 | 219 => 65 | 217 => 87 | 225 => 88 | 224 => 89 | 267 => 90 | 266 => 105 | 314 => 106 | n => n, fun | 9 => 9 | 4 => 4 | 3 => 3 | 5 => 5 | 46 => 72 | 146 => 154 | 51 => 125 | n => n, fun | 1 => 4 | n => n⟩
theorem Tryz.lays144 : Go.Proofs.Lays.n144 Tryz.prog Tryz.lays144_ren := {
  mixed := by kernel_rfl
  f143 := Tryz.func35.trans (congrArg some (by kernel_rfl))
  f144 := Tryz.func15.trans (congrArg some (by kernel_rfl))
  f217 := Tryz.func87.trans (congrArg some (by kernel_rfl))
  f219 := Tryz.func65.trans (congrArg some (by kernel_rfl))
  f224 := Tryz.func89.trans (congrArg some (by kernel_rfl))
  f225 := Tryz.func88.trans (congrArg some (by kernel_rfl))
  f266 := Tryz.func105.trans (congrArg some (by kernel_rfl))
  f267 := Tryz.func90.trans (congrArg some (by kernel_rfl))
  f314 := Tryz.func106.trans (congrArg some (by kernel_rfl))
  t3 := Tryz.underlying3
  a3 := Tryz.isAgg3
  z3 := Tryz.sizeOf3
  v3 := Tryz.zeroValue3
  t4 := Tryz.underlying4
  a4 := Tryz.isAgg4
  z4 := Tryz.sizeOf4
  v4 := Tryz.zeroValue4
  t5 := Tryz.underlying5
  a5 := Tryz.isAgg5
  z5 := Tryz.sizeOf5
  v5 := Tryz.zeroValue5
  t9 := Tryz.underlying9
  a9 := Tryz.isAgg9
  z9 := Tryz.sizeOf9
  v9 := Tryz.zeroValue9
  t46 := Tryz.underlying72
  a46 := Tryz.isAgg72
  z46 := Tryz.sizeOf72
  v46 := Tryz.zeroValue72
  t51 := Tryz.underlying125
  a51 := Tryz.isAgg125
  z51 := Tryz.sizeOf125
  v51 := Tryz.zeroValue125
  t146 := Tryz.underlying154
  a146 := Tryz.isAgg154
  z146 := Tryz.sizeOf154
  v146 := Tryz.zeroValue154
  g1 := by kernel_rfl }
end Go.Proofs
namespace Go.Ev
open Go Go.Proofs
open Go.RowKit (Below)
set_option maxRecDepth 100000
theorem enters_tz {f : FuncId} {fn : Func} {c : Code} (h : TT.func f = some fn) (hb : fn.body = some c) : Enters Tryz.prog f := (TT_ok.func f fn c h hb).2
theorem relL1 {M : Mem} {ρ : Ren} {s : List UInt8} {args : List Value} (h : relL M ρ [.s s] args) : args = [.string ⟨s.toArray⟩] := by
  simp only [relL, rel] at h
  obtain ⟨x, r, rfl, rfl, rfl⟩ := h; rfl
theorem relL2 {M : Mem} {ρ : Ren} {s c : List UInt8} {args : List Value} (h : relL M ρ [.s s, .s c] args) : args = [.string ⟨s.toArray⟩, .string ⟨c.toArray⟩] := by
  simp only [relL, rel] at h
  obtain ⟨x, r, rfl, rfl, x, r, rfl, rfl, rfl⟩ := h; rfl

def spTrim : List V → Heap → OR
  | [.s s, .s c], H => if s.length < 4294967281 ∧ c.length < 4294967281 ∧ (c.all fun b => decide (b.toNat < 128)) = true then .val (.s (Lib.trimS s c)) H else .no
  | _, _ => .no
def spValid : List V → Heap → OR
  | [.s s], H => if s.length < 4294967281 then .val (.b (Lib.validD s)) H else .no
  | _, _ => .no
theorem tabs_of_sr {M : Mem} {ρ : Ren} {H : Heap} {w : World} (hS : SR TT M ρ H w) : Lib.Utf8Tabs 1 2 w := by
  constructor
  · intro c hc
    obtain ⟨cs, ty, fr, hM, hr⟩ := hS.glob 1 _ rfl
    have hw := hS.frozen _ _ hM
    obtain ⟨x, hx, hxr⟩ := relL_get hr (i := c) (v := .i .u8 (Lib.firstT c)) (by simp [hc])
    simp only [rel] at hxr
    subst hxr
    simp [World.cell?, hw, hx]
  · intro i hi
    obtain ⟨cs, ty, fr, hM, hr⟩ := hS.glob 2 _ rfl
    have hw := hS.frozen _ _ hM
    have key : ∀ j, j < 16 → ((((List.range 16).map fun i => [V.i .u8 (Lib.accLo i), V.i .u8 (Lib.accHi i)]).flatten)[2 * j]? = some (V.i .u8 (Lib.accLo j)) ∧ (((List.range 16).map fun i => [V.i .u8 (Lib.accLo i), V.i .u8 (Lib.accHi i)]).flatten)[2 * j + 1]? = some (V.i .u8 (Lib.accHi j))) := by
      intro j hj
      have : j = 0 ∨ j = 1 ∨ j = 2 ∨ j = 3 ∨ j = 4 ∨ j = 5 ∨ j = 6 ∨ j = 7 ∨ j = 8 ∨ j = 9 ∨ j = 10 ∨ j = 11 ∨ j = 12 ∨ j = 13 ∨ j = 14 ∨ j = 15 := by omega
      rcases this with rfl | rfl | rfl | rfl | rfl | rfl | rfl | rfl | rfl | rfl | rfl | rfl | rfl | rfl | rfl | rfl <;> exact ⟨rfl, rfl⟩
    obtain ⟨x, hx, hxr⟩ := relL_get hr (key i hi).1
    obtain ⟨y, hy, hyr⟩ := relL_get hr (key i hi).2
    simp only [rel] at hxr hyr
    subst hxr hyr
    exact ⟨by simp [World.cell?, hw, hx], by simp [World.cell?, hw, hy]⟩
theorem ok33 : SpecOK Tryz.prog TT 36 spValid := by
  intro vs H r h hne
  unfold spValid at h
  split at h
  · rename_i H s
    split at h
    · rename_i hc
      subst h
      refine ⟨enters_tz (f := 36) rfl rfl, fun M ρ w args hS hr => ?_⟩
      rw [relL1 hr]
      refine callOK_below (x := .bool (Lib.validD s)) hS ?_ (by simp only [rel])
      exact Any.utf8_ValidString Tryz.lays196 ⟨s.toArray⟩ w (by show s.toArray.size ≤ _; simp; omega) (tabs_of_sr hS)
    · exact absurd h.symm hne
  · exact absurd h.symm hne
def pieces (s : List UInt8) (c : UInt8) : List (List UInt8) := (Lib.splitB ⟨#[c]⟩ 0 (Lib.countB ⟨s.toArray⟩ ⟨#[c]⟩) ⟨s.toArray⟩).map fun b => b.data.toList
end Go.Ev
namespace Go.Ev
open Go Go.Proofs
set_option linter.unusedSimpArgs false
set_option linter.unusedVariables false
set_option linter.unnecessarySimpa false
set_option maxRecDepth 1000000
def dig : List UInt8 := [48, 49, 50, 51, 52, 53, 54, 55, 56, 57]
theorem loop71pa {call : CallF} (hC : call.Sound Tryz.prog TT) {Q : Out → Prop} : ∀ (L pre : List UInt8) (t : Tm) (H : Heap), (pre ++ L).length < 1100000 → t.wid = 37 → t.get 0 = .s (pre ++ L) → t.get 3 = .i .i64 pre.length → (∀ b : UInt8, ∀ H, call 73 [.i .u8 b.toNat] H = .val (.b (worR b.toNat)) H) →
    (∀ (t' : Tm) (H' : Heap), t'.wid = 37 → t'.get 0 = .s (pre ++ L) → t'.get 3 = .i .i64 ((pre.length + runW L : Nat) : Int) → Q (.exit 0 t' H')) →
    LTri Tryz.prog TT (sub [true, true, true, false, false, false] (bodyOf Tryz.f49)) t H Q := by
 intro L
 induction L with
 | nil =>
   intro pre t H hlen hw h0 h3 hcall hE
   refine LTri.round' ?_
   apply sQ
   apply rS hC
   · iterate 5 refine oA ?_
     iterate 4 refine oC ?_
     refine oA ?_
     rfl
   refine cF (by simp [h0, h3] <;> rfl) ?_
   refine Tri.exit ?_
   refine inSeq_exit ?_
   refine inLoop_exit ?_
   exact hE _ _ (by simp [hw]) (by simp [h0]) (by simp [h3, runW])
 | cons b L ih =>
   intro pre t H hlen hw h0 h3 hcall hE
   have hlt := fin_len pre.length L.length
   have hat := str_at pre b L
   have hat2 := str_at2 pre b L
   have hq1 : ∀ v, worR b.toNat = v → ∀ H, call 73 [.i .u8 b.toNat] H = .val (.b v) H := fun v e H => by rw [← e]; exact hcall b H
   cases hq2 : worR b.toNat with
   | true =>
     have hq := hq1 _ hq2
     have hF := ai @h0 (ai @h3 (ai @hlt (ai @hat (ai @hat2 @hq))))
     refine LTri.round' ?_
     apply sQ
     apply rS hC
     · iterate 5 refine oA ?_
       iterate 4 refine oB ?_
       refine oA ?_
       rfl
     refine cT (by simp [hF] <;> rfl) ?_
     apply Tri.skip
     apply sN
     apply bK
     apply rN hC
     · iterate 3 refine oA ?_
       rfl
     apply bN
     refine inLoop_norm ?_
     refine ih (pre ++ [b]) _ _ (by simpa using hlen) (by simp [hw]) (by simp [h0]) (by simp; exact wrap_i64 (by omega) (by simp at hlen; omega)) hcall (fun t' H' k1 k2 k3 => hE t' H' k1 (by simpa using k2) (by rw [k3]; simp [runW, hq2, Int.add_assoc, Int.add_comm, Int.add_left_comm]))
   | false =>
     have hq := hq1 _ hq2
     have hF := ai @h0 (ai @h3 (ai @hlt (ai @hat (ai @hat2 @hq))))
     refine LTri.round' ?_
     apply sQ
     apply rS hC
     · iterate 5 refine oA ?_
       iterate 4 refine oB ?_
       refine oA ?_
       rfl
     refine cF (by simp [hF] <;> rfl) ?_
     refine Tri.exit ?_
     refine inSeq_exit ?_
     refine inLoop_exit ?_
     exact hE _ _ (by simp [hw]) (by simp [h0]) (by simp [h3, runW, hq2])

theorem loop71pb {call : CallF} (hC : call.Sound Tryz.prog TT) {Q : Out → Prop} : ∀ (L pre : List UInt8) (t : Tm) (H : Heap), (pre ++ L).length < 1100000 → t.wid = 37 → t.get 0 = .s (pre ++ L) → t.get 3 = .i .i64 pre.length →
    (∀ (t' : Tm) (H' : Heap), t'.wid = 37 → t'.get 0 = .s (pre ++ L) → t'.get 3 = .i .i64 ((pre.length + runQ L : Nat) : Int) → Q (.exit 2 t' H')) →
    LTri Tryz.prog TT (sub [true, true, true, true, false, false, false] (bodyOf Tryz.f49)) t H Q := by
 intro L
 induction L with
 | nil =>
   intro pre t H hlen hw h0 h3 hE
   refine LTri.round' ?_
   apply sQ
   apply rS hC
   · iterate 5 refine oA ?_
     iterate 4 refine oC ?_
     refine oA ?_
     rfl
   refine cF (by simp [h0, h3] <;> rfl) ?_
   refine Tri.exit ?_
   refine inSeq_exit ?_
   refine inLoop_exit ?_
   exact hE _ _ (by simp [hw]) (by simp [h0]) (by simp [h3, runQ])
 | cons b L ih =>
   intro pre t H hlen hw h0 h3 hE
   have hlt := fin_len pre.length L.length
   have hat := str_at pre b L
   have hat2 := str_at2 pre b L
   have hq1 : ∀ v, (b == 39) = v → (((b.toNat : Int) == 39) = v) := fun v e => by rw [← e, u8_eq b 39]; rfl
   cases hq2 : (b == 39) with
   | true =>
     have hq := hq1 _ hq2
     have hF := ai @h0 (ai @h3 (ai @hlt (ai @hat (ai @hat2 @hq))))
     refine LTri.round' ?_
     apply sQ
     apply rS hC
     · iterate 5 refine oA ?_
       iterate 4 refine oB ?_
       refine oA ?_
       rfl
     refine cT (by simp [hF] <;> rfl) ?_
     apply Tri.skip
     apply sN
     apply bK
     apply rN hC
     · iterate 3 refine oA ?_
       rfl
     apply bN
     refine inLoop_norm ?_
     refine ih (pre ++ [b]) _ _ (by simpa using hlen) (by simp [hw]) (by simp [h0]) (by simp; exact wrap_i64 (by omega) (by simp at hlen; omega)) (fun t' H' k1 k2 k3 => hE t' H' k1 (by simpa using k2) (by rw [k3]; simp [runQ, hq2, Int.add_assoc, Int.add_comm, Int.add_left_comm]))
   | false =>
     have hq := hq1 _ hq2
     have hF := ai @h0 (ai @h3 (ai @hlt (ai @hat (ai @hat2 @hq))))
     refine LTri.round' ?_
     apply sQ
     apply rS hC
     · iterate 5 refine oA ?_
       iterate 4 refine oB ?_
       refine oA ?_
       rfl
     refine cF (by simp [hF] <;> rfl) ?_
     refine Tri.exit ?_
     refine inSeq_exit ?_
     refine inLoop_exit ?_
     exact hE _ _ (by simp [hw]) (by simp [h0]) (by simp [h3, runQ, hq2])

theorem body_71pn {call : CallF} (hC : call.Sound Tryz.prog TT)   : EBody Tryz.prog TT 49 [.s []] (fun r => r = .val (.i .i64 0)) := by
 refine en Tryz.f49 rfl rfl (by simp [Tryz.f49]) 37 rfl fun t hw hg => ?_
 have h0 := hg 0 _ rfl
 clear hg
 try simp only [Nd.enc_eq] at *
 apply rS hC
 · refine oA ?_
   rfl
 apply sQ
 apply rS hC
 · iterate 3 refine oA ?_
   iterate 4 refine oC ?_
   refine oA ?_
   rfl
 refine cT (by simp [h0] <;> rfl) ?_
 apply rS hC
 · refine oA ?_
   rfl
 apply Tri.ret
 apply sR
 refine endsE (by simp [Tryz.f49] <;> rfl) (by rfl) ?_
 rfl
theorem body_71pf {call : CallF} (hC : call.Sound Tryz.prog TT) (c : UInt8) (r : List UInt8) (hs : ∀ H, call 72 [.i .u8 c.toNat] H = .val (.b false) H)  : EBody Tryz.prog TT 49 [.s (c :: r)] (fun r => r = .val (.i .i64 0)) := by
 refine en Tryz.f49 rfl rfl (by simp [Tryz.f49]) 37 rfl fun t hw hg => ?_
 have h0 := hg 0 _ rfl
 clear hg
 try simp only [Nd.enc_eq] at *
 apply rS hC
 · refine oA ?_
   rfl
 apply sQ
 apply rS hC
 · iterate 3 refine oA ?_
   iterate 4 refine oB ?_
   refine oA ?_
   rfl
 refine cT (by simp [h0, hs] <;> rfl) ?_
 apply rS hC
 · refine oA ?_
   rfl
 apply Tri.ret
 apply sR
 refine endsE (by simp [Tryz.f49] <;> rfl) (by rfl) ?_
 rfl
theorem body_71pt {call : CallF} (hC : call.Sound Tryz.prog TT) (c : UInt8) (L : List UInt8) (hlen : ([c] ++ L).length < 1100000) (hcall : ∀ b : UInt8, ∀ H, call 73 [.i .u8 b.toNat] H = .val (.b (worR b.toNat)) H) (hs : ∀ H, call 72 [.i .u8 c.toNat] H = .val (.b true) H)  : EBody Tryz.prog TT 49 [.s ([c] ++ L)] (fun r => r = .val (.i .i64 ((1 + runW L + runQ (L.drop (runW L)) : Nat) : Int))) := by
 refine en Tryz.f49 rfl rfl (by simp [Tryz.f49]) 37 rfl fun t hw hg => ?_
 have h0 := hg 0 _ rfl
 clear hg
 try simp only [Nd.enc_eq] at *
 apply rS hC
 · refine oA ?_
   rfl
 apply sQ
 apply rS hC
 · iterate 3 refine oA ?_
   iterate 4 refine oB ?_
   refine oA ?_
   rfl
 refine cF (by simp [h0, hs] <;> rfl) ?_
 apply Tri.skip
 apply sN
 apply rS hC
 · refine oA ?_
   rfl
 apply sQ
 apply bK
 refine Tri.loop ?_
 refine loop71pa hC L [c] _ _ hlen (by simp [hw]) (by simp [h0]) (by simp) hcall ?exit
 case exit =>
  intro t2 H2 hw h0 h3
  refine inBlk_exit ?_
  apply sN
  apply sQ
  apply bK
  refine Tri.loop ?_
  have eL : [c] ++ L = ([c] ++ L.take (runW L)) ++ L.drop (runW L) := by rw [List.append_assoc, List.take_append_drop]
  have el : ([c] ++ L.take (runW L)).length = 1 + runW L := by
   have := runW_le L
   simp; omega
  refine loop71pb hC (L.drop (runW L)) ([c] ++ L.take (runW L)) _ _ (by rw [← eL]; exact hlen) (by simp [hw]) (by rw [← eL]; simp [h0]) (by rw [el]; simp [h3]) ?exit2
  case exit2 =>
   intro t3 H3 hw h0 h3
   rw [el] at h3
   refine inBlk_exit ?_
   apply sN
   apply rS hC
   · iterate 2 refine oA ?_
     rfl
   apply Tri.ret
   refine endsE (by simp [Tryz.f49, h3] <;> rfl) (by rfl) ?_
   simp
def kwHeap : Heap := [some { ty := 52, cells := [.s [97, 99, 116, 111, 114], .b true, .s [97, 110, 100], .b true, .s [97, 115], .b true, .s [98, 101], .b true, .s [98, 111, 120], .b true, .s [98, 114, 101, 97, 107], .b true, .s [99, 108, 97, 115, 115], .b true, .s [99, 111, 110, 115, 117, 109, 101], .b true, .s [99, 111, 110, 116, 105, 110, 117, 101], .b true, .s [100, 111], .b true, .s [101, 108, 115, 101], .b true, .s [101, 108, 115, 101, 105, 102], .b true, .s [101, 110, 100], .b true, .s [101, 114, 114, 111, 114], .b true, .s [102, 97, 108, 115, 101], .b true, .s [102, 111, 114], .b true, .s [102, 117, 110], .b true, .s [105, 102], .b true, .s [105, 102, 100, 101, 102], .b true, .s [105, 110], .b true, .s [105, 110, 116, 101, 114, 102, 97, 99, 101], .b true, .s [105, 115], .b true, .s [105, 115, 110, 116], .b true, .s [105, 115, 111], .b true, .s [108, 101, 116], .b true, .s [109, 97, 116, 99, 104], .b true, .s [110, 101, 119], .b true, .s [110, 111, 116], .b true, .s [111, 98, 106, 101, 99, 116], .b true, .s [111, 114], .b true, .s [112, 114, 105, 109, 105, 116, 105, 118, 101], .b true, .s [114, 101, 99, 111, 118, 101, 114], .b true, .s [114, 101, 102], .b true, .s [114, 101, 112, 101, 97, 116], .b true, .s [114, 101, 116, 117, 114, 110], .b true, .s [116, 97, 103], .b true, .s [116, 104, 101, 110], .b true, .s [116, 104, 105, 115], .b true, .s [116, 114, 97, 105, 116], .b true, .s [116, 114, 110], .b true, .s [116, 114, 117, 101], .b true, .s [116, 114, 121], .b true, .s [116, 121, 112, 101], .b true, .s [117, 110, 116, 105, 108], .b true, .s [117, 115, 101], .b true, .s [118, 97, 108], .b true, .s [118, 97, 114], .b true, .s [119, 104, 101, 114, 101], .b true, .s [119, 104, 105, 108, 101], .b true, .s [119, 105, 116, 104], .b true, .s [120, 111, 114], .b true], kind := .map }, some { ty := 9, cells := [.s [97, 99, 116, 111, 114], .s [97, 110, 100], .s [97, 115], .s [98, 101], .s [98, 111, 120], .s [98, 114, 101, 97, 107], .s [99, 108, 97, 115, 115], .s [99, 111, 110, 115, 117, 109, 101], .s [99, 111, 110, 116, 105, 110, 117, 101], .s [100, 111], .s [101, 108, 115, 101], .s [101, 108, 115, 101, 105, 102], .s [101, 110, 100], .s [101, 114, 114, 111, 114], .s [102, 97, 108, 115, 101], .s [102, 111, 114], .s [102, 117, 110], .s [105, 102], .s [105, 102, 100, 101, 102], .s [105, 110], .s [105, 110, 116, 101, 114, 102, 97, 99, 101], .s [105, 115], .s [105, 115, 110, 116], .s [105, 115, 111], .s [108, 101, 116], .s [109, 97, 116, 99, 104], .s [110, 101, 119], .s [110, 111, 116], .s [111, 98, 106, 101, 99, 116], .s [111, 114], .s [112, 114, 105, 109, 105, 116, 105, 118, 101], .s [114, 101, 99, 111, 118, 101, 114], .s [114, 101, 102], .s [114, 101, 112, 101, 97, 116], .s [114, 101, 116, 117, 114, 110], .s [116, 97, 103], .s [116, 104, 101, 110], .s [116, 104, 105, 115], .s [116, 114, 97, 105, 116], .s [116, 114, 110], .s [116, 114, 117, 101], .s [116, 114, 121], .s [116, 121, 112, 101], .s [117, 110, 116, 105, 108], .s [117, 115, 101], .s [118, 97, 108], .s [118, 97, 114], .s [119, 104, 101, 114, 101], .s [119, 104, 105, 108, 101], .s [119, 105, 116, 104], .s [120, 111, 114]], kind := .all }]
theorem keywords_lit : evFun TT (gamOf Con.none) 3000 29 [] [] = .val (.mp 0) kwHeap := by kernel_rfl
def spKeywords : List V → Heap → OR
  | [], [] => .val (.mp 0) kwHeap
  | _, _ => .no
theorem ok72 : SpecOK Tryz.prog TT 29 spKeywords := by
  intro vs H r h hne
  unfold spKeywords at h
  split at h
  · subst h
    exact evFun_ok TT_ok Con.none_sound 3000 29 [] [] _ keywords_lit hne
  · exact absurd h.symm hne
theorem mapGet_words (s : List UInt8) : ∀ ws : List (List UInt8), mapGet (some .string) (.s s) ((ws.map fun w => [V.s w, V.b true]).flatten) = some (if ws.contains s then some (.b true) else none)
  | [] => rfl
  | w :: ws => by
    simp only [List.map_cons, List.flatten_cons, List.cons_append, List.nil_append, mapGet, sameKey]
    by_cases h : s = w
    · subst h; simp
    · have ih := mapGet_words s ws
      have h2 : (s == w) = false := beq_eq_false_iff_ne.2 h
      simp [h, h2, ih]
def kwWords : List (List UInt8) := [[97, 99, 116, 111, 114], [97, 110, 100], [97, 115], [98, 101], [98, 111, 120], [98, 114, 101, 97, 107], [99, 108, 97, 115, 115], [99, 111, 110, 115, 117, 109, 101], [99, 111, 110, 116, 105, 110, 117, 101], [100, 111], [101, 108, 115, 101], [101, 108, 115, 101, 105, 102], [101, 110, 100], [101, 114, 114, 111, 114], [102, 97, 108, 115, 101], [102, 111, 114], [102, 117, 110], [105, 102], [105, 102, 100, 101, 102], [105, 110], [105, 110, 116, 101, 114, 102, 97, 99, 101], [105, 115], [105, 115, 110, 116], [105, 115, 111], [108, 101, 116], [109, 97, 116, 99, 104], [110, 101, 119], [110, 111, 116], [111, 98, 106, 101, 99, 116], [111, 114], [112, 114, 105, 109, 105, 116, 105, 118, 101], [114, 101, 99, 111, 118, 101, 114], [114, 101, 102], [114, 101, 112, 101, 97, 116], [114, 101, 116, 117, 114, 110], [116, 97, 103], [116, 104, 101, 110], [116, 104, 105, 115], [116, 114, 97, 105, 116], [116, 114, 110], [116, 114, 117, 101], [116, 114, 121], [116, 121, 112, 101], [117, 110, 116, 105, 108], [117, 115, 101], [118, 97, 108], [118, 97, 114], [119, 104, 101, 114, 101], [119, 104, 105, 108, 101], [119, 105, 116, 104], [120, 111, 114]]
def kw (s : List UInt8) : Bool := kwWords.contains s
theorem kw_lookup (s : List UInt8) : evLookup TT 52 (.mp 0) (.s s) false kwHeap = some (.b (kw s)) := by
  have h1 : mapAt kwHeap 0 = some ⟨52, (kwWords.map fun w => [V.s w, V.b true]).flatten, .map⟩ := rfl
  simp only [evLookup, tU, Tryz.underlying52, h1, tU, Tryz.underlying9, goodKey, if_true, mapGet_words, kw]
  cases kwWords.contains s <;> simp
theorem body_52 {call : CallF} (hC : call.Sound Tryz.prog TT) (s : List UInt8) (n : Int) (hs : ∀ H, call 49 [.s s] H = .val (.i .i64 n) H) (hk : call 29 [] [] = .val (.mp 0) kwHeap) (hlk : evLookup TT 52 (.mp 0) (.s s) false kwHeap = some (.b (kw s)))  : Body Tryz.prog TT 40 [.s s] (.val (.b ((!s.isEmpty) && (n == s.length) && !kw s))) := by
 refine en Tryz.f40 rfl rfl (by simp [Tryz.f40]) 18 rfl fun t hw hg => ?_
 have h0 := hg 0 _ rfl
 clear hg
 try simp only [Nd.enc_eq] at *
 apply rS hC
 · refine oA ?_
   rfl
 apply sQ
 cases hB1 : (!s.isEmpty : Bool)
 case false =>
  apply rN hC
  · iterate 3 refine oA ?_
    iterate 5 refine oC ?_
    iterate 2 refine oA ?_
    iterate 4 refine oC ?_
    iterate 2 refine oA ?_
    rfl
  apply sN
  apply Tri.ret
  simp [Ends, Tryz.f40, h0, hs, hk, hlk, hB1]
 case true =>
  cases hB2 : (n == (s.length : Int) : Bool)
  case false =>
   apply rN hC
   · iterate 3 refine oA ?_
     iterate 5 refine oB ?_
     iterate 2 refine oA ?_
     iterate 4 refine oC ?_
     iterate 2 refine oA ?_
     rfl
   apply sN
   apply Tri.ret
   simp [Ends, Tryz.f40, h0, hs, hk, hlk, hB1, hB2]
  case true =>
   apply rN hC
   · iterate 3 refine oA ?_
     iterate 5 refine oB ?_
     iterate 2 refine oA ?_
     iterate 4 refine oB ?_
     iterate 2 refine oA ?_
     rfl
   apply sN
   apply Tri.ret
   simp [Ends, Tryz.f40, h0, hs, hk, hlk, hB1, hB2]
theorem body_1123c {call : CallF} (hC : call.Sound Tryz.prog TT) (pre L : List UInt8) (hlen : (pre ++ L).length < 1000000000) (c : Int) (hat : ∀ H, call 64 [.s (pre ++ L), .i .i64 pre.length] H = .val (.i .u8 c) H) (hl : ∀ H, call 62 [.i .u8 c] H = .val (.b false) H) (hc : (c != 95) = true)  : EBody Tryz.prog TT 41 [.s (pre ++ L), .i .i64 pre.length] (fun r => r = .val (.i .i64 pre.length)) := by
 refine en Tryz.f41 rfl rfl (by simp [Tryz.f41]) 42 rfl fun t hw hg => ?_
 have h0 := hg 0 _ rfl
 have h1 := hg 1 _ rfl
 clear hg
 try simp only [Nd.enc_eq] at *
 have hF := ai @h0 (ai @h1 (ai @hat (ai @hl @hc)))
 apply rS hC
 · refine oA ?_
   rfl
 apply sQ
 apply rS hC
 · iterate 6 refine oA ?_
   iterate 4 refine oB ?_
   refine oA ?_
   rfl
 refine cT (by simp [hF] <;> rfl) ?_
 apply rS hC
 · iterate 2 refine oA ?_
   rfl
 apply Tri.ret
 apply sR
 refine endsE (by simp [Tryz.f41] <;> rfl) (by rfl) ?_
 rfl
theorem body_1123a {call : CallF} (hC : call.Sound Tryz.prog TT) (pre L : List UInt8) (hlen : (pre ++ L).length < 1000000000) (c : Int) (hat : ∀ H, call 64 [.s (pre ++ L), .i .i64 pre.length] H = .val (.i .u8 c) H) (hl : ∀ H, call 62 [.i .u8 c] H = .val (.b true) H) (hcall : ∀ b : UInt8, ∀ H, call 63 [.i .u8 b.toNat] H = .val (.b (worR b.toNat)) H)   : EBody Tryz.prog TT 41 [.s (pre ++ L), .i .i64 pre.length] (fun r => r = .val (.i .i64 ((pre.length + runW L + runQ (L.drop (runW L)) : Nat) : Int))) := by
 refine en Tryz.f41 rfl rfl (by simp [Tryz.f41]) 42 rfl fun t hw hg => ?_
 have h0 := hg 0 _ rfl
 have h1 := hg 1 _ rfl
 clear hg
 try simp only [Nd.enc_eq] at *
 have hF := ai @h0 (ai @h1 (ai @hat @hl))
 apply rS hC
 · refine oA ?_
   rfl
 apply sQ
 apply rS hC
 · iterate 6 refine oA ?_
   iterate 4 refine oC ?_
   refine oA ?_
   rfl
 refine cF (by simp [hF] <;> rfl) ?_
 apply Tri.skip
 apply sN
 apply sQ
 apply bK
 refine Tri.loop ?_
 refine loop1123_0 hC L pre _ _ hlen (by simp [hw]) (by simp [h0]) (by simp [h1]) hcall ?exit
 case exit =>
  intro t2 H2 hw h0 h1
  refine inBlk_exit ?_
  apply sN
  apply sQ
  apply bK
  refine Tri.loop ?_
  have eL : pre ++ L = (pre ++ L.take (runW L)) ++ L.drop (runW L) := by rw [List.append_assoc, List.take_append_drop]
  have el : (pre ++ L.take (runW L)).length = pre.length + runW L := by
   have := runW_le L
   simp; omega
  refine loop1123_1 hC (L.drop (runW L)) (pre ++ L.take (runW L)) _ _ (by rw [← eL]; exact hlen) (by simp [hw]) (by rw [← eL]; simp [h0]) (by rw [el]; simp [h1]) ?exit2
  case exit2 =>
   intro t3 H3 hw h0 h1
   rw [el] at h1
   refine inBlk_exit ?_
   apply sN
   apply rS hC
   · iterate 2 refine oA ?_
     rfl
   apply Tri.ret
   refine endsE (by simp [Tryz.f41] <;> rfl) (by rfl) ?_
   simp
theorem body_1123b {call : CallF} (hC : call.Sound Tryz.prog TT) (pre L : List UInt8) (hlen : (pre ++ L).length < 1000000000) (c : Int) (hat : ∀ H, call 64 [.s (pre ++ L), .i .i64 pre.length] H = .val (.i .u8 c) H) (hl : ∀ H, call 62 [.i .u8 c] H = .val (.b false) H) (hc : (c != 95) = false) (hcall : ∀ b : UInt8, ∀ H, call 63 [.i .u8 b.toNat] H = .val (.b (worR b.toNat)) H)   : EBody Tryz.prog TT 41 [.s (pre ++ L), .i .i64 pre.length] (fun r => r = .val (.i .i64 ((pre.length + runW L + runQ (L.drop (runW L)) : Nat) : Int))) := by
 refine en Tryz.f41 rfl rfl (by simp [Tryz.f41]) 42 rfl fun t hw hg => ?_
 have h0 := hg 0 _ rfl
 have h1 := hg 1 _ rfl
 clear hg
 try simp only [Nd.enc_eq] at *
 have hF := ai @h0 (ai @h1 (ai @hat (ai @hl @hc)))
 apply rS hC
 · refine oA ?_
   rfl
 apply sQ
 apply rS hC
 · iterate 6 refine oA ?_
   iterate 4 refine oB ?_
   refine oA ?_
   rfl
 refine cF (by simp [hF] <;> rfl) ?_
 apply Tri.skip
 apply sN
 apply sQ
 apply bK
 refine Tri.loop ?_
 refine loop1123_0 hC L pre _ _ hlen (by simp [hw]) (by simp [h0]) (by simp [h1]) hcall ?exit
 case exit =>
  intro t2 H2 hw h0 h1
  refine inBlk_exit ?_
  apply sN
  apply sQ
  apply bK
  refine Tri.loop ?_
  have eL : pre ++ L = (pre ++ L.take (runW L)) ++ L.drop (runW L) := by rw [List.append_assoc, List.take_append_drop]
  have el : (pre ++ L.take (runW L)).length = pre.length + runW L := by
   have := runW_le L
   simp; omega
  refine loop1123_1 hC (L.drop (runW L)) (pre ++ L.take (runW L)) _ _ (by rw [← eL]; exact hlen) (by simp [hw]) (by rw [← eL]; simp [h0]) (by rw [el]; simp [h1]) ?exit2
  case exit2 =>
   intro t3 H3 hw h0 h1
   rw [el] at h1
   refine inBlk_exit ?_
   apply sN
   apply rS hC
   · iterate 2 refine oA ?_
     rfl
   apply Tri.ret
   refine endsE (by simp [Tryz.f41] <;> rfl) (by rfl) ?_
   simp
theorem EBody.of1 {F : FuncId} {vs : List V} {r : Res} (h : EBody Tryz.prog TT F vs (fun x => x = r)) : Body Tryz.prog TT F vs r := by
  obtain ⟨fn, c, h1, h2, h3, o, ⟨r', rfl, k2⟩, hx⟩ := h
  exact ⟨fn, c, h1, h2, h3, o, k2, hx⟩
theorem spec_run {P : Program} {T : Tab} (hT : TOk P T) (hp : T.Plain) (F : FuncId) (n k : Nat) (u : V) (h : (match evFun T (gamOf Con.none) n F [] [] with | .val v J => fz J k v | _ => none) = some u) : ∃ g, SpecOK P T F g ∧ ∀ H, g [] H = .val u H := by
  refine ⟨fun vs H => match vs with | [] => .val u H | _ => .no, fun vs H x hx hne => ?_, fun H => rfl⟩
  simp only at hx
  split at hx
  · subst hx
    split at h
    · rename_i v J he
      obtain ⟨h1, h2⟩ := con_of_ev_fz hT hp Con.none_sound he h rfl
      exact ⟨h1, h2 H⟩
    · cases h
  · exact absurd hx.symm hne
theorem sp1142 : ∃ g, SpecOK Tryz.prog TT 64 g ∧ ∀ (s : List UInt8) (i : Nat), ∀ H, g [.s s, .i .i64 i] H = .val (.i .u8 (atR s i)) H := by
  obtain ⟨g, k, s⟩ := spec_val TT_ok TT_plain 64 (fun p : List UInt8 × Nat => [.s p.1, .i .i64 p.2]) (fun _ => True) (fun p => .i .u8 (atR p.1 p.2)) (fun p _ => by simp [nlL, nl]) (fun _ => rfl) (fun a b h => by
    simp only [List.cons.injEq, V.s.injEq, V.i.injEq, true_and, and_true] at h
    rw [h.1, show a.2 = b.2 from by omega]) (fun p _ => by
    obtain ⟨s, i⟩ := p
    simp only [atR]
    by_cases hi : i < s.length
    · have e : s[i]? = some s[i] := List.getElem?_eq_getElem hi
      simp only [e]
      exact body_1142a n0 s i s[i] (by omega) hi e (fun _ => rfl)
    · rw [List.getElem?_eq_none (by omega)]
      exact body_1142b n0 s i (by omega))
  exact ⟨g, k, fun a i H => s (a, i) trivial H⟩
theorem encS_inj2 : ∀ a b : List (List UInt8), encS a = encS b → a = b
  | [], [], _ => rfl
  | [], _ :: _, h => by simp [encS] at h
  | _ :: _, [], h => by simp [encS] at h
  | x :: a, y :: b, h => by
    simp only [encS, List.map_cons, List.cons.injEq, V.s.injEq] at h
    rw [h.1, encS_inj2 a b h.2]
theorem sp1124 : ∃ g, SpecOK Tryz.prog TT 42 g ∧ ∀ (l : List (List UInt8)) (s : List UInt8), l.length < 1100000 → ∀ H, g [.isl 1 (encS l), .s s] H = .val (.b (l.any fun x => x == s)) H := by
  obtain ⟨g, k, s⟩ := spec_val TT_ok TT_plain 42 (fun p : List (List UInt8) × List UInt8 => [.isl 1 (encS p.1), .s p.2]) (fun p => p.1.length < 1100000) (fun p => .b (p.1.any fun x => x == p.2)) (fun p _ => by simp [nlL, nl, encS_nl]) (fun _ => rfl) (fun a b h => by
    simp only [List.cons.injEq, V.s.injEq, V.isl.injEq, true_and, and_true] at h
    rw [encS_inj2 _ _ h.1, h.2]) (fun p hp => EBody.of1 (body_1124 n0 p.1 p.2 hp))
  exact ⟨g, k, fun l s' h H => s (l, s') h H⟩
theorem idR_split (pre L : List UInt8) : idR (pre ++ L) pre.length = if (!(letR (atR (pre ++ L) pre.length)) && (atR (pre ++ L) pre.length != 95)) = true then pre.length else pre.length + runW L + runQ (L.drop (runW L)) := by
  have e1 : (pre ++ L).drop pre.length = L := by simp
  have e2 : (pre ++ L).drop (pre.length + runW L) = L.drop (runW L) := by rw [← List.drop_drop, e1]
  simp only [idR, e1, e2]
theorem sp1123 : ∃ g, SpecOK Tryz.prog TT 41 g ∧ ∀ (s : List UInt8) (i : Nat), s.length < 1000000000 → i ≤ s.length → ∀ H, g [.s s, .i .i64 i] H = .val (.i .i64 (idR s i)) H := by
  obtain ⟨g1, k1, s1⟩ := sp1141
  obtain ⟨g2, k2, s2⟩ := sp1142
  obtain ⟨g3, k3, s3⟩ := sp1143
  obtain ⟨g, k, s⟩ := spec_val TT_ok TT_plain 41 (fun p : List UInt8 × Nat => [.s p.1, .i .i64 p.2]) (fun p => p.1.length < 1000000000 ∧ p.2 ≤ p.1.length) (fun p => .i .i64 (idR p.1 p.2)) (fun p _ => by simp [nlL, nl]) (fun _ => rfl) (fun a b h => by
    simp only [List.cons.injEq, V.s.injEq, V.i.injEq, true_and, and_true] at h
    rw [h.1, show a.2 = b.2 from by omega]) (fun p hp => by
    obtain ⟨s, i⟩ := p
    obtain ⟨hs, hi⟩ := hp
    simp only at hs hi ⊢
    obtain ⟨pre, L, rfl, rfl⟩ : ∃ pre L, s = pre ++ L ∧ i = pre.length := ⟨s.take i, s.drop i, by simp, by simp [Nat.min_eq_left hi]⟩
    have hC := ws (ws (ws n0 k1) k2) k3
    generalize hc : ((CallF.none.with 62 g1).with 64 g2).with 63 g3 = call at hC
    have c2 : ∀ H, call 64 [.s (pre ++ L), .i .i64 pre.length] H = .val (.i .u8 (atR (pre ++ L) pre.length)) H := fun H => by rw [← hc, w_other _ _ _ _ rfl, w_here]; exact s2 _ _ H
    have hr := atR_range (pre ++ L) pre.length
    have c1 : ∀ H, call 62 [.i .u8 (atR (pre ++ L) pre.length)] H = .val (.b (letR (atR (pre ++ L) pre.length))) H := fun H => by rw [← hc, w_other _ _ _ _ rfl, w_other _ _ _ _ rfl, w_here]; exact s1 _ hr.1 hr.2 H
    have c3 : ∀ b : UInt8, ∀ H, call 63 [.i .u8 b.toNat] H = .val (.b (worR b.toNat)) H := fun b H => by rw [← hc, w_here]; exact s3 _ (by omega) (u8_lt b) H
    rw [idR_split]
    cases hl : letR (atR (pre ++ L) pre.length) with
    | true =>
      rw [hl] at c1
      simpa using EBody.of1 (body_1123a hC pre L hs _ c2 c1 c3)
    | false =>
      rw [hl] at c1
      cases h95 : (atR (pre ++ L) pre.length != 95) with
      | true => simpa using EBody.of1 (body_1123c hC pre L hs _ c2 c1 h95)
      | false => simpa using EBody.of1 (body_1123b hC pre L hs _ c2 c1 h95 c3))
  exact ⟨g, k, fun a i h1 h2 H => s (a, i) ⟨h1, h2⟩ H⟩
def kwL : List (List UInt8) := [[97, 99, 116, 111, 114], [97, 110, 100], [97, 115], [98, 101], [98, 111, 120], [98, 114, 101, 97, 107], [99, 108, 97, 115, 115], [99, 111, 110, 115, 117, 109, 101], [99, 111, 110, 116, 105, 110, 117, 101], [100, 111], [101, 108, 115, 101], [101, 108, 115, 101, 105, 102], [101, 110, 100], [101, 114, 114, 111, 114], [102, 97, 108, 115, 101], [102, 111, 114], [102, 117, 110], [105, 102], [105, 102, 100, 101, 102], [105, 110], [105, 110, 116, 101, 114, 102, 97, 99, 101], [105, 115], [105, 115, 110, 116], [105, 115, 111], [108, 101, 116], [109, 97, 116, 99, 104], [110, 101, 119], [110, 111, 116], [111, 98, 106, 101, 99, 116], [111, 114], [112, 114, 105, 109, 105, 116, 105, 118, 101], [114, 101, 99, 111, 118, 101, 114], [114, 101, 102], [114, 101, 112, 101, 97, 116], [114, 101, 116, 117, 114, 110], [116, 97, 103], [116, 104, 101, 110], [116, 104, 105, 115], [116, 114, 97, 105, 116], [116, 114, 110], [116, 114, 117, 101], [116, 114, 121], [116, 121, 112, 101], [117, 110, 116, 105, 108], [117, 115, 101], [118, 97, 108], [118, 97, 114], [119, 104, 101, 114, 101], [119, 104, 105, 108, 101], [119, 105, 116, 104], [120, 111, 114]]
def syL : List (List UInt8) := [[60, 60], [62, 62], [61, 61], [33, 61], [60, 61], [62, 61], [61, 62], [45, 62], [46, 62], [43, 63], [45, 63], [42, 63], [47, 63], [37, 63], [35, 114, 101, 97, 100], [35, 115, 101, 110, 100], [35, 115, 104, 97, 114, 101], [35, 97, 108, 105, 97, 115], [35, 97, 110, 121], [40], [41], [91], [93], [123], [125], [44], [46], [58], [59], [63], [61], [60], [62], [43], [45], [42], [47], [37], [124], [38], [94], [33], [126]]
theorem sp1125 : ∃ g, SpecOK Tryz.prog TT 22 g ∧ ∀ H, g [] H = .val (.isl 1 (encS kwL)) H := spec_run TT_ok TT_plain 22 3000 3000 (.isl 1 (encS kwL)) (by kernel_rfl)
theorem sp1150 : ∃ g, SpecOK Tryz.prog TT 24 g ∧ ∀ H, g [] H = .val (.isl 1 (encS syL)) H := spec_run TT_ok TT_plain 24 3000 3000 (.isl 1 (encS syL)) (by kernel_rfl)
def isIdR (s : List UInt8) : Bool := !(s == []) && (decide (s.length ≤ 60) && (((idR s 0 : Nat) : Int) == s.length && !(kwL.any fun x => x == s)))
theorem kwL_len : kwL.length < 1100000 := by decide
theorem body_1098a {call : CallF} (hC : call.Sound Tryz.prog TT)   : EBody Tryz.prog TT 19 [.s []] (fun r => r = .val (.b false)) := by
 refine en Tryz.f19 rfl rfl (by simp [Tryz.f19]) 23 rfl fun t hw hg => ?_
 have h0 := hg 0 _ rfl
 clear hg
 try simp only [Nd.enc_eq] at *
 apply rS hC
 · refine oA ?_
   rfl
 apply rS hC
 · iterate 3 refine oA ?_
   iterate 3 refine oC ?_
   iterate 2 refine oA ?_
   iterate 5 refine oC ?_
   iterate 2 refine oA ?_
   iterate 4 refine oC ?_
   iterate 2 refine oA ?_
   rfl
 apply Tri.ret
 refine endsE (by simp [Tryz.f19] <;> rfl) (by rfl) ?_
 rfl
theorem body_1098b {call : CallF} (hC : call.Sound Tryz.prog TT) (s : List UInt8) (h1 : (s == []) = false) (hs1 : ¬ s = []) (h2 : ¬ (s.length : Int) ≤ 60)  : EBody Tryz.prog TT 19 [.s s] (fun r => r = .val (.b false)) := by
 refine en Tryz.f19 rfl rfl (by simp [Tryz.f19]) 23 rfl fun t hw hg => ?_
 have h0 := hg 0 _ rfl
 clear hg
 try simp only [Nd.enc_eq] at *
 have hF := ai @h0 (ai @h1 (ai @hs1 @h2))
 apply rS hC
 · refine oA ?_
   rfl
 apply rS hC
 · iterate 3 refine oA ?_
   iterate 3 refine oB ?_
   iterate 2 refine oA ?_
   iterate 5 refine oC ?_
   iterate 2 refine oA ?_
   iterate 4 refine oC ?_
   iterate 2 refine oA ?_
   rfl
 apply Tri.ret
 refine endsE (by simp [Tryz.f19] <;> rfl) (by rfl) ?_
 first
  | rfl
  | simp
theorem body_1098c {call : CallF} (hC : call.Sound Tryz.prog TT) (s : List UInt8) (h1 : (s == []) = false) (hs1 : ¬ s = []) (h2 : (s.length : Int) ≤ 60) (k : Nat) (q : Bool) (l : List V) (hi : ∀ H, call 41 [.s s, .i .i64 0] H = .val (.i .i64 k) H) (hk : ∀ H, call 22 [] H = .val (.isl 1 l) H) (hh : ∀ H, call 42 [.isl 1 l, .s s] H = .val (.b q) H) (h3 : ((k : Int) == s.length) = false)  : EBody Tryz.prog TT 19 [.s s] (fun r => r = .val (.b false)) := by
 refine en Tryz.f19 rfl rfl (by simp [Tryz.f19]) 23 rfl fun t hw hg => ?_
 have h0 := hg 0 _ rfl
 clear hg
 try simp only [Nd.enc_eq] at *
 have hF := ai @h0 (ai @h1 (ai @hs1 (ai @h2 (ai @hi (ai @hk (ai @hh @h3))))))
 apply rS hC
 · refine oA ?_
   rfl
 apply rS hC
 · iterate 3 refine oA ?_
   iterate 3 refine oB ?_
   iterate 2 refine oA ?_
   iterate 5 refine oB ?_
   iterate 2 refine oA ?_
   iterate 4 refine oC ?_
   iterate 2 refine oA ?_
   rfl
 apply Tri.ret
 refine endsE (by simp [Tryz.f19] <;> rfl) (by rfl) ?_
 first
  | rfl
  | simp
theorem body_1098d {call : CallF} (hC : call.Sound Tryz.prog TT) (s : List UInt8) (h1 : (s == []) = false) (hs1 : ¬ s = []) (h2 : (s.length : Int) ≤ 60) (k : Nat) (q : Bool) (l : List V) (hi : ∀ H, call 41 [.s s, .i .i64 0] H = .val (.i .i64 k) H) (hk : ∀ H, call 22 [] H = .val (.isl 1 l) H) (hh : ∀ H, call 42 [.isl 1 l, .s s] H = .val (.b q) H) (h3 : ((k : Int) == s.length) = true)  : EBody Tryz.prog TT 19 [.s s] (fun r => r = .val (.b (!q))) := by
 refine en Tryz.f19 rfl rfl (by simp [Tryz.f19]) 23 rfl fun t hw hg => ?_
 have h0 := hg 0 _ rfl
 clear hg
 try simp only [Nd.enc_eq] at *
 have hF := ai @h0 (ai @h1 (ai @hs1 (ai @h2 (ai @hi (ai @hk (ai @hh @h3))))))
 apply rS hC
 · refine oA ?_
   rfl
 apply rS hC
 · iterate 3 refine oA ?_
   iterate 3 refine oB ?_
   iterate 2 refine oA ?_
   iterate 5 refine oB ?_
   iterate 2 refine oA ?_
   iterate 4 refine oB ?_
   iterate 2 refine oA ?_
   rfl
 apply Tri.ret
 refine endsE (by simp [Tryz.f19] <;> rfl) (by rfl) ?_
 first
  | rfl
  | simp
def hdR (L : List UInt8) : Int := match L with
  | [] => 0
  | b :: _ => b.toNat
def digL (base : Int) : List UInt8 → List UInt8 → Bool → Nat × List UInt8
  | [], out, _ => (0, out)
  | b :: L, out, pd => if 0 ≤ digR b.toNat base then ((digL base L (out ++ [b]) true).1 + 1, (digL base L (out ++ [b]) true).2)
    else if b = 95 ∧ out ≠ [] ∧ 0 ≤ digR (hdR L) base ∧ pd = true then ((digL base L out false).1 + 1, (digL base L out false).2)
    else (0, out)
def digB (b : UInt8) : Prop := 48 ≤ b.toNat ∧ b.toNat ≤ 57
def valD : List UInt8 → Nat
  | [] => 0
  | b :: l => (b.toNat - 48) * 10 ^ l.length + valD l
def Canon (s : List UInt8) : Prop := (∀ b ∈ s, digB b) ∧ 0 < s.length ∧ (1 < s.length → s.head? ≠ some 48)
def maxS : List UInt8 := [51, 52, 48, 50, 56, 50, 51, 54, 54, 57, 50, 48, 57, 51, 56, 52, 54, 51, 52, 54, 51, 51, 55, 52, 54, 48, 55, 52, 51, 49, 55, 54, 56, 50, 49, 49, 52, 53, 53]
def numF (base : Nat) : List UInt8 → Nat → Nat
  | [], v => v
  | b :: l, v => numF base l (v * base + (digR b.toNat base).toNat)
def signR (s : List UInt8) (k : Nat) : Nat × List UInt8 := if ((atR s k == 43) || (atR s k == 45)) = true then (k + 1, (s.take (k + 1)).drop k) else (k, [])
def expR (s : List UInt8) (e : Nat) (text : List UInt8) (k : Int) : Option (Nat × List UInt8 × Int) := if ((atR s e == 101) || (atR s e == 69)) = true then
    if (digL 10 (s.drop (signR s (e + 1)).1) [] false).2 = [] then none else some ((signR s (e + 1)).1 + (digL 10 (s.drop (signR s (e + 1)).1) [] false).1, text ++ 101 :: ((signR s (e + 1)).2 ++ (digL 10 (s.drop (signR s (e + 1)).1) [] false).2), 4)
  else some (e, text, k)
def fracR (s : List UInt8) (e : Nat) (d : List UInt8) : Nat × List UInt8 × Int := if ((atR s e == 46) && decide (0 ≤ digR (atR s (e + 1)) 10)) = true then (e + 1 + (digL 10 (s.drop (e + 1)) [] false).1, d ++ 46 :: (digL 10 (s.drop (e + 1)) [] false).2, 4) else (e, d, 3)
def restR (s : List UInt8) (e : Nat) (d : List UInt8) : Option (Nat × List UInt8 × Int) := expR s (fracR s e d).1 (fracR s e d).2.1 (fracR s e d).2.2
def tokV (k : Int) (t : List UInt8) : V := .agg [.i .i64 k, .s t, .i .i64 0, .b false]
def errV : V := .tup [tokV 0 [], .i .i64 0, .i .i64 33]
def okV (k : Int) (t : List UInt8) (e : Nat) : V := .tup [tokV k t, .i .i64 e, .i .i64 0]
def NumEnd (s d : List UInt8) (base e : Nat) (text : List UInt8) (k : Int) (v : V) : Prop :=
  (((d == []) || worR (atR s e)) = true ∧ v = errV) ∨ (((d == []) || worR (atR s e)) = false ∧ ((k = 4 ∧ v = okV 4 text e) ∨ (k = 3 ∧ ((∃ o, Canon o ∧ valD o = numF base d 0 ∧ numF base d 0 ≤ valD maxS ∧ v = okV 3 o e) ∨ (valD maxS < numF base d 0 ∧ v = errV)))))
def NumR (s : List UInt8) (i : Nat) (v : V) : Prop :=
  if begR s i [48, 120] = true then NumEnd s (digL 16 (s.drop (i + 2)) [] false).2 16 (i + 2 + (digL 16 (s.drop (i + 2)) [] false).1) (digL 16 (s.drop (i + 2)) [] false).2 3 v
  else if begR s i [48, 98] = true then NumEnd s (digL 2 (s.drop (i + 2)) [] false).2 2 (i + 2 + (digL 2 (s.drop (i + 2)) [] false).1) (digL 2 (s.drop (i + 2)) [] false).2 3 v
  else (restR s (i + (digL 10 (s.drop i) [] false).1) (digL 10 (s.drop i) [] false).2 = none ∧ v = errV) ∨ ∃ e' t' k', restR s (i + (digL 10 (s.drop i) [] false).1) (digL 10 (s.drop i) [] false).2 = some (e', t', k') ∧ NumEnd s (digL 10 (s.drop i) [] false).2 10 e' t' k' v
def lnL : List UInt8 → Nat
  | [] => 0
  | b :: l => if (b == 10) = true then 0 else lnL l + 1
def cmF (s : List UInt8) : Nat → Nat → Nat → Bool → Bool × Nat × Bool
  | 0, i, _, l => (false, i, l)
  | n + 1, i, d, l => if d = 0 then (true, i, l) else if s.length ≤ i then (false, i, l)
    else if begR s i [47, 42] = true then cmF s n (i + 2) (d + 1) l
    else if begR s i [42, 47] = true then cmF s n (i + 2) (d - 1) l
    else cmF s n (i + 1) d (l || (atR s i == 10))
def cutR (s : List UInt8) (i j : Nat) : List UInt8 := (s.take j).drop i
def blkF (s : List UInt8) : Nat → Nat → Bool → Nat × Bool × Int
  | 0, i, l => (i, l, -1)
  | n + 1, i, l => if s.length ≤ i then (i, l, -1)
    else if ((atR s i == 10) : Bool) = true then blkF s n (i + 1) true
    else if (((atR s i == 32) || (atR s i == 9)) || (atR s i == 13)) = true then blkF s n (i + 1) l
    else if begR s i [47, 47] = true then (if Lib.validD (cutR s i (i + lnL (s.drop i))) = true then blkF s n (i + lnL (s.drop i)) l else (i, l, i))
    else if begR s i [47, 42] = true then (if (cmF s (s.length + 1) (i + 2) 1 l).1 = true then
        (if Lib.validD (cutR s i (cmF s (s.length + 1) (i + 2) 1 l).2.1) = true then blkF s n (cmF s (s.length + 1) (i + 2) 1 l).2.1 (cmF s (s.length + 1) (i + 2) 1 l).2.2 else (i, (cmF s (s.length + 1) (i + 2) 1 l).2.2, i))
      else (i, (cmF s (s.length + 1) (i + 2) 1 l).2.2, i))
    else (i, l, -1)
theorem sp33v : ∃ g, SpecOK Tryz.prog TT 36 g ∧ ∀ s : List UInt8, s.length < 100000000 → ∀ H, g [.s s] H = .val (.b (Lib.validD s)) H := ⟨spValid, ok33, fun s hs H => by
  have : s.length < 4294967281 := by omega
  simp only [spValid]
  rw [if_pos this]⟩
def rawF (s : List UInt8) : Nat → Nat → Option Nat
  | 0, _ => none
  | n + 1, k => if k + 3 ≤ s.length then (if ((s.take (k + 3)).drop k == [34, 34, 34]) = true then some k else rawF s n (k + 1)) else none
def quoF (s : List UInt8) (esc : Nat → Option (List UInt8 × Nat)) (mk : Int) : Nat → Nat → List UInt8 → Option (List UInt8 × Nat)
  | 0, _, _ => none
  | n + 1, i, out => if s.length ≤ i then none else if ((atR s i == 10) : Bool) = true then none
    else if ((atR s i == mk) : Bool) = true then some (out, i + 1)
    else if ((atR s i == 92) : Bool) = true then (match esc i with | some p => quoF s esc mk n p.2 (out ++ p.1) | none => none)
    else quoF s esc mk n (i + 1) (out ++ (s.take (i + 1)).drop i)
def quoP : Option (List UInt8 × Nat) → List UInt8 × Nat × Bool
  | some p => (p.1, p.2, Lib.validD p.1)
  | none => ([], 0, false)
def escL (c : Int) (ok : Bool) : List UInt8 → List UInt8 → Option (List UInt8)
  | x :: xs, y :: ys => if ((c == (x.toNat : Int)) && ok) = true then some [y] else escL c ok xs ys
  | _, _ => none
def hexF (s : List UInt8) (i : Nat) : Nat → Nat → Int → Option Int
  | 0, _, n => some n
  | m + 1, k, n => if digR (atR s (i + 2 + k)) 16 < 0 then none else hexF s i m (k + 1) (n * 16 + digR (atR s (i + 2 + k)) 16)
def escT (i m : Nat) (v : Int) : Option (List UInt8 × Nat) :=
  if ((((((m : Int) == 0) || (((m : Int) == 2) && decide (127 < v))) || decide (1114111 < v))) || (decide (55296 ≤ v) && decide (v < 57344))) = true then none else some (runesS [v], i + 2 + m)
def manyR (c : Int) : Nat := if (c == 120) = true then 2 else if (c == 117) = true then 4 else if (c == 85) = true then 6 else 0
def escN : List UInt8 := [110, 116, 114, 48, 92, 34, 39]
def escB : List UInt8 := [10, 9, 13, 0, 92, 34, 39]
def escR (s : List UInt8) (i : Nat) : Option (List UInt8 × Nat) :=
  match escL (atR s (i + 1)) (decide ((i : Int) + 1 < s.length)) escN escB with
  | some t => some (t, i + 2)
  | none => match hexF s i (manyR (atR s (i + 1))) 0 0 with
    | none => none
    | some v => escT i (manyR (atR s (i + 1))) v
end Go.Ev
-- no T33
namespace Go.Ev
open Go Go.Proofs
set_option maxRecDepth 1000000
set_option linter.unusedVariables false
theorem runesS_le (v : Int) : (runesS [v]).length ≤ 4 := by
  have h := foldl_size_le [v] ByteArray.empty
  have e : (runesS [v]).length = (([v] : List Int).foldl (fun r n => r ++ Utf8.encode n) ByteArray.empty).size := by
    unfold runesS
    rw [Array.length_toList]
    rfl
  rw [e]
  exact h
def quoR (s : List UInt8) (mk : Int) (i : Nat) : Option (List UInt8 × Nat) := quoF s (escR s) mk (s.length + 1) (i + 1) []
theorem sp1098 : ∃ g, SpecOK Tryz.prog TT 19 g ∧ ∀ s : List UInt8, s.length < 100000000 → ∀ H, g [.s s] H = .val (.b (isIdR s)) H := by
  obtain ⟨g1, k1, s1⟩ := sp1123
  obtain ⟨g2, k2, s2⟩ := sp1125
  obtain ⟨g3, k3, s3⟩ := sp1124
  obtain ⟨g, k, s⟩ := spec_val TT_ok TT_plain 19 (fun p : List UInt8 => [.s p]) (fun p => p.length < 100000000) (fun p => .b (isIdR p)) (fun p _ => by simp [nlL, nl]) (fun p => rfl) (fun a b h => by
    simp only [List.cons.injEq, V.s.injEq, and_true] at h
    rw [h]) (fun s hs => by
    have hC := ws (ws (ws n0 k1) k2) k3
    generalize hc : ((CallF.none.with 41 g1).with 22 g2).with 42 g3 = call at hC
    have c1 : ∀ H, call 41 [.s s, .i .i64 0] H = .val (.i .i64 (idR s 0)) H := fun H => by rw [← hc, w_other _ _ _ _ rfl, w_other _ _ _ _ rfl, w_here]; exact s1 s 0 (by omega) (by omega) H
    have c2 : ∀ H, call 22 [] H = .val (.isl 1 (encS kwL)) H := fun H => by rw [← hc, w_other _ _ _ _ rfl, w_here]; exact s2 H
    have c3 : ∀ H, call 42 [.isl 1 (encS kwL), .s s] H = .val (.b (kwL.any fun x => x == s)) H := fun H => by rw [← hc, w_here]; exact s3 _ _ kwL_len H
    by_cases h0 : s = []
    · subst h0
      exact EBody.of1 (body_1098a hC)
    · have h1 : (s == []) = false := by simpa using h0
      by_cases h2 : s.length ≤ 60
      · cases h3 : (((idR s 0 : Nat) : Int) == s.length) with
        | true =>
          have e : isIdR s = !(kwL.any fun x => x == s) := by simp only [isIdR, h1, h3, decide_eq_true h2]; rfl
          rw [e]
          exact EBody.of1 (body_1098d hC s h1 h0 (by omega) _ _ _ c1 c2 c3 h3)
        | false =>
          have e : isIdR s = false := by simp only [isIdR, h1, h3, decide_eq_true h2]; rfl
          rw [e]
          exact EBody.of1 (body_1098c hC s h1 h0 (by omega) _ _ _ c1 c2 c3 h3)
      · have e : isIdR s = false := by simp only [isIdR, decide_eq_false h2, Bool.false_and, Bool.and_false]
        rw [e]
        exact EBody.of1 (body_1098b hC s h1 h0 (by omega)))
  exact ⟨g, k, fun s' h H => s s' h H⟩
end Go.Ev
namespace Go.Proofs
def Tryz.laysM171_ren : Go.Shelf.Ren := ⟨fun | 171 => 61 | 243 => 86 | 246 => 104 | 283 => 117 | 284 => 118 | 285 => 119 | 286 => 120 | 129 => 129 | 317 => 128 | 318 => 130 | 319 => 131 | 320 => 132 | 337 => 139 | 338 => 140 | n => n, fun | 3 => 3 | 9 => 9 | 2 => 2 | 4 => 4 | 171 => 174 | 0 => 0 | 53 => 119 | 37 => 64 | 5 => 5 | 173 => 177 | 212 => 196 | 51 => 125 | 20 => 20 | 213 => 197 | 46 => 72 | 232 => 225 | 233 => 226 | n => n, fun | 17 => 8 | 18 => 9 | 19 => 10 | n => n⟩
theorem Tryz.laysM171 : Go.Proofs.LaysM.n171 Tryz.prog Tryz.laysM171_ren := {
  mixed := by kernel_rfl
  f129 := Tryz.func129.trans (congrArg some (by kernel_rfl))
  f171 := Tryz.func61.trans (congrArg some (by kernel_rfl))
  f243 := Tryz.func86.trans (congrArg some (by kernel_rfl))
  f246 := Tryz.func104.trans (congrArg some (by kernel_rfl))
  f283 := Tryz.func117.trans (congrArg some (by kernel_rfl))
  f284 := Tryz.func118.trans (congrArg some (by kernel_rfl))
  f285 := Tryz.func119.trans (congrArg some (by kernel_rfl))
  f286 := Tryz.func120.trans (congrArg some (by kernel_rfl))
  f317 := Tryz.func128.trans (congrArg some (by kernel_rfl))
  f318 := Tryz.func130.trans (congrArg some (by kernel_rfl))
  f319 := Tryz.func131.trans (congrArg some (by kernel_rfl))
  f320 := Tryz.func132.trans (congrArg some (by kernel_rfl))
  f337 := Tryz.func139.trans (congrArg some (by kernel_rfl))
  f338 := Tryz.func140.trans (congrArg some (by kernel_rfl))
  t0 := Tryz.underlying0
  a0 := Tryz.isAgg0
  z0 := Tryz.sizeOf0
  v0 := Tryz.zeroValue0
  t2 := Tryz.underlying2
  a2 := Tryz.isAgg2
  z2 := Tryz.sizeOf2
  v2 := Tryz.zeroValue2
  t3 := Tryz.underlying3
  a3 := Tryz.isAgg3
  z3 := Tryz.sizeOf3
  v3 := Tryz.zeroValue3
  t4 := Tryz.underlying4
  a4 := Tryz.isAgg4
  z4 := Tryz.sizeOf4
  v4 := Tryz.zeroValue4
  t5 := Tryz.underlying5
  a5 := Tryz.isAgg5
  z5 := Tryz.sizeOf5
  v5 := Tryz.zeroValue5
  t9 := Tryz.underlying9
  a9 := Tryz.isAgg9
  z9 := Tryz.sizeOf9
  v9 := Tryz.zeroValue9
  t20 := Tryz.underlying20
  a20 := Tryz.isAgg20
  z20 := Tryz.sizeOf20
  v20 := Tryz.zeroValue20
  t37 := Tryz.underlying64
  a37 := Tryz.isAgg64
  z37 := Tryz.sizeOf64
  v37 := Tryz.zeroValue64
  t46 := Tryz.underlying72
  a46 := Tryz.isAgg72
  z46 := Tryz.sizeOf72
  v46 := Tryz.zeroValue72
  t51 := Tryz.underlying125
  a51 := Tryz.isAgg125
  z51 := Tryz.sizeOf125
  v51 := Tryz.zeroValue125
  t53 := Tryz.underlying119
  a53 := Tryz.isAgg119
  z53 := Tryz.sizeOf119
  v53 := Tryz.zeroValue119
  t171 := Tryz.underlying174
  a171 := Tryz.isAgg174
  z171 := Tryz.sizeOf174
  v171 := Tryz.zeroValue174
  t173 := Tryz.underlying177
  a173 := Tryz.isAgg177
  z173 := Tryz.sizeOf177
  v173 := Tryz.zeroValue177
  t212 := Tryz.underlying196
  a212 := Tryz.isAgg196
  z212 := Tryz.sizeOf196
  v212 := Tryz.zeroValue196
  t213 := Tryz.underlying197
  a213 := Tryz.isAgg197
  z213 := Tryz.sizeOf197
  t232 := Tryz.underlying225
  a232 := Tryz.isAgg225
  z232 := Tryz.sizeOf225
  v232 := Tryz.zeroValue225
  t233 := Tryz.underlying226
  a233 := Tryz.isAgg226
  z233 := Tryz.sizeOf226
  v233 := Tryz.zeroValue226
  g17 := by kernel_rfl
  g18 := by kernel_rfl
  g19 := by kernel_rfl
  i0 := by kernel_rfl
  i2 := by kernel_rfl
  i3 := by kernel_rfl
  i4 := by kernel_rfl
  i5 := by kernel_rfl
  i9 := by kernel_rfl
  i20 := by kernel_rfl
  i37 := by kernel_rfl
  i46 := by kernel_rfl
  i51 := by kernel_rfl
  i53 := by kernel_rfl
  i171 := by kernel_rfl
  i173 := by kernel_rfl
  i212 := by kernel_rfl
  i232 := by kernel_rfl
  i233 := by kernel_rfl
  m17 := by kernel_rfl
  m18 := by kernel_rfl
  m19 := by kernel_rfl }
end Go.Proofs
namespace Go.Ev
open Go Go.Proofs
open Go.RowKit (Below)
set_option maxRecDepth 100000
def spItoa : List V → Heap → OR
  | [.i .i64 n], H => if -9223372036854775808 ≤ n ∧ n ≤ 9223372036854775807 then .val (.s (Lib.itoa n)) H else .no
  | _, _ => .no
theorem tabIs_of_sr {M : Mem} {ρ : Ren} {H : Heap} {w : World} (hS : SR TT M ρ H w) : Lib.TabIs Tryz.prog w "internal/strconv.uint64pow10" .u64 Lib.pow10Tab := by
  obtain ⟨cs, ty, fr, hM, hr⟩ := hS.glob 8 _ rfl
  have hw := hS.frozen _ _ hM
  have hg : Tryz.prog.globalNamed "internal/strconv.uint64pow10" = some 8 := by kernel_rfl
  unfold Lib.TabIs World.var?
  rw [hg]
  simp only [Option.bind_some, hw]
  congr 2
  have key : ∀ (l : List Int) (cs : List Value), relL M ρ (l.map fun z => V.i .u64 z) cs → cs = l.map fun z => Value.int .u64 z := by
    intro l
    induction l with
    | nil => intro cs h; simpa [relL] using h
    | cons z l ih =>
      intro cs h
      simp only [List.map_cons, relL, rel] at h
      obtain ⟨x, r, rfl, rfl, hr⟩ := h
      rw [ih r hr]
      rfl
  refine key Lib.pow10Tab cs ?_
  have e : (Lib.pow10Tab.map fun z => V.i .u64 z) = ((List.range 20).map fun i => V.i .u64 ((10 ^ i : Nat) : Int)) := by
    simp only [Lib.pow10Tab, List.map_map]
    rfl
  rw [e]
  exact hr
theorem ok149 : SpecOK Tryz.prog TT 61 spItoa := by
  intro vs H r h hne
  unfold spItoa at h
  split at h
  · rename_i H n
    split at h
    · rename_i hc
      subst h
      refine ⟨enters_tz (f := 61) rfl rfl, fun M ρ w args hS hr => ?_⟩
      have ha : args = [.int .i64 n] := by
        simp only [relL, rel] at hr
        obtain ⟨x, r, rfl, rfl, rfl⟩ := hr; rfl
      rw [ha]
      refine callOK_below (x := .string ⟨(Lib.itoa n).toArray⟩) hS ?_ (by simp only [rel])
      refine (Any.strconv_Itoa Tryz.laysM171 n hc.1 hc.2 w (tabIs_of_sr hS)).mono ?_
      rintro e w' ⟨rfl, k, os, rfl⟩
      exact ⟨rfl, rfl, rfl, rfl, by simp [Sort.grow, World.drewN], fun j hj => by simp only [Sort.grow, World.drewN]; rw [Array.getElem?_append_left hj]⟩
    · exact absurd h.symm hne
  · exact absurd h.symm hne
end Go.Ev
namespace Go.Ev
open Go Go.Proofs
set_option linter.unusedSimpArgs false
set_option linter.unusedVariables false
set_option linter.unnecessarySimpa false
set_option maxRecDepth 1000000
def lastB (x : List UInt8) : Int := match x.getLast? with | some b => b.toNat | none => 0
def okS (s : List UInt8) (i : Nat) (best x : List UInt8) : Bool := decide (best.length < x.length) && (begR s i x && (!(letR (lastB x)) || !(worR (atR s (i + x.length)))))
def symF (s : List UInt8) (i : Nat) : List (List UInt8) → List UInt8 → List UInt8
  | [], best => best
  | x :: l, best => symF s i l (if okS s i best x = true then x else best)
def oneV (k : Int) (t : List UInt8) (e : Int) : V := .tup [tokV k t, .i .i64 e, .i .i64 0]
def oneE (c : Int) : V := .tup [tokV 0 [], .i .i64 0, .i .i64 c]
theorem idR_le {s : List UInt8} {i : Nat} (h : i ≤ s.length) : i ≤ idR s i ∧ idR s i ≤ s.length := by
  unfold idR
  split
  · exact ⟨Nat.le_refl _, h⟩
  · have h1 := runW_le (s.drop i)
    have h2 := runQ_le (s.drop (i + runW (s.drop i)))
    simp only [List.length_drop] at h1 h2
    omega
def rawP (s : List UInt8) (i : Nat) : List UInt8 × Nat × Bool := match rawF s (s.length + 1) (i + 3) with
  | none => ([], 0, false)
  | some k => (cutR s (i + 3) k, k + 3, Lib.validD (cutR s (i + 3) k))
def strR (p : List UInt8 × Nat × Bool) : V := if p.2.2 = true then oneV 5 p.1 p.2.1 else oneE 31
def chrR (p : List UInt8 × Nat × Bool) : V := if p.2.2 = true then (match runesV p.1 with
    | [.i .i32 r] => oneV 3 (Lib.itoa (IntKind.i64.wrap r)) p.2.1
    | _ => oneE 31) else oneE 31
def symR (s : List UInt8) (i : Nat) : V := if (symF s i syL [] == []) = true then oneE 30 else oneV 6 (symF s i syL []) ((i : Int) + (symF s i syL []).length)
def OneR (s : List UInt8) (i : Nat) (v : V) : Prop :=
  if i < idR s i then v = oneV (if (kwL.any fun x => x == (s.take (idR s i)).drop i) = true then 2 else 1) ((s.take (idR s i)).drop i) (idR s i)
  else if 0 ≤ digR (atR s i) 10 then NumR s i v
  else if begR s i [34, 34, 34] = true then v = strR (rawP s i)
  else if ((atR s i == 34) : Bool) = true then v = strR (quoP (quoR s 34 i))
  else if ((atR s i == 39) : Bool) = true then v = chrR (quoP (quoR s 39 i))
  else v = symR s i
abbrev Tk := Int × List UInt8 × Int × Bool
def tkL (x : Tk) : List V := [.i .i64 x.1, .s x.2.1, .i .i64 x.2.2.1, .b x.2.2.2]
def tkC (l : List Tk) : List V := l.flatMap tkL
theorem tkC_length (l : List Tk) : (tkC l).length = l.length * 4 := by
  induction l with
  | nil => rfl
  | cons x l ih => simp only [tkC, List.flatMap_cons, List.length_append, List.length_cons] at ih ⊢; rw [ih]; simp [tkL]; omega
theorem tkC_snoc (l : List Tk) (x : Tk) : tkC (l ++ [x]) = tkC l ++ tkL x := by simp [tkC]
def OutAt (H : Heap) (v : V) (l : List Tk) : Prop := ∃ (n : Nat) (cap : Option Nat) (kd : BK), v = .sl n 4 0 l.length cap ∧ H[n]? = some (some { ty := 44, cells := tkC l, kind := kd }) ∧ kd ≠ .map ∧ ((cap = some 0 ∧ l = []) ∨ cap = none)
inductive ScanS (s : List UInt8) : Nat → List Tk → (List Tk ⊕ (Int × Int)) → Prop
  | opn {i : Nat} {l : List Tk} (h : 0 ≤ (blkF s (s.length + 1) i false).2.2) : ScanS s i l (.inr ((blkF s (s.length + 1) i false).2.2, 32))
  | done {i : Nat} {l : List Tk} (h : ¬ 0 ≤ (blkF s (s.length + 1) i false).2.2) (h2 : (blkF s (s.length + 1) i false).1 = s.length) : ScanS s i l (.inl l)
  | bad {i : Nat} {l : List Tk} {c : Int} (h : ¬ 0 ≤ (blkF s (s.length + 1) i false).2.2) (h2 : (blkF s (s.length + 1) i false).1 < s.length) (hc : c ≠ 0) (hv : OneR s (blkF s (s.length + 1) i false).1 (oneE c)) : ScanS s i l (.inr (((blkF s (s.length + 1) i false).1 : Nat), c))
  | step {i e : Nat} {l : List Tk} {k : Int} {t : List UInt8} {r : List Tk ⊕ (Int × Int)} (h : ¬ 0 ≤ (blkF s (s.length + 1) i false).2.2) (h2 : (blkF s (s.length + 1) i false).1 < s.length) (hv : OneR s (blkF s (s.length + 1) i false).1 (oneV k t e)) (h3 : (blkF s (s.length + 1) i false).1 < e) (h4 : e ≤ s.length) (hr : ScanS s e (l ++ [(k, t, (((blkF s (s.length + 1) i false).1 : Nat) : Int), (blkF s (s.length + 1) i false).2.1 || ((l.length : Int) == 0))]) r) : ScanS s i l r
theorem OutAt.ext {H : Heap} {v : V} {l : List Tk} (h : OutAt H v l) (K : Heap) : OutAt (H ++ K) v l := by
  obtain ⟨n, cap, kd, rfl, hn, hk, hcap⟩ := h
  exact ⟨n, cap, kd, rfl, by rw [List.getElem?_append_left (List.getElem?_eq_some_iff.1 hn).1]; exact hn, hk, hcap⟩
theorem OutAt.len {H : Heap} {v : V} {l : List Tk} (h : OutAt H v l) : evLen TT 27 v = some (.i .i64 l.length) := by
  obtain ⟨n, cap, kd, rfl, hn, hk, hcap⟩ := h
  have e1 : TT.und 27 = some (.slice 44) := rfl
  simp only [evLen, e1]
theorem rowsOf_tk : ∀ l : List Tk, rowsOf 4 l.length (tkC l) = some (l.map fun x => V.agg (tkL x))
  | [] => rfl
  | x :: l => by
    have ih := rowsOf_tk l
    simp only [tkC] at ih
    simp [rowsOf, tkC, tkL, ih]
theorem fzL_tk {H : Heap} : ∀ (l : List Tk) (n : Nat), 4 * l.length + 5 ≤ n → fzL H n (tkC l) = some (tkC l)
  | [], n, h => by cases n <;> simp [tkC, Ev.fzL]
  | x :: l, n, h => by
    obtain ⟨m, rfl⟩ : ∃ m, n = m + 5 := ⟨n - 5, by simp only [List.length_cons] at h; omega⟩
    have ih := fzL_tk (H := H) l (m + 1) (by simp only [List.length_cons] at h; omega)
    have e : tkC (x :: l) = .i .i64 x.1 :: .s x.2.1 :: .i .i64 x.2.2.1 :: .b x.2.2.2 :: tkC l := by simp [tkC, tkL]
    rw [e]
    simp [Ev.fzL, fz, ih]
theorem digN_cases (c : Int) : (48 ≤ c ∧ c ≤ 57 ∧ digN c = c - 48) ∨ (¬ (48 ≤ c ∧ c ≤ 57) ∧ (10 ≤ digN c ∨ digN c = -1)) := by
  unfold digN
  by_cases h : 48 ≤ c ∧ c ≤ 57
  · rw [if_pos h]; exact .inl ⟨h.1, h.2, rfl⟩
  · rw [if_neg h]
    refine .inr ⟨h, ?_⟩
    by_cases h2 : 97 ≤ c ∧ c ≤ 102
    · rw [if_pos h2]; omega
    · rw [if_neg h2]
      by_cases h3 : 65 ≤ c ∧ c ≤ 70
      · rw [if_pos h3]; omega
      · rw [if_neg h3]; omega
theorem digR10 (b : UInt8) : 0 ≤ digR b.toNat 10 ↔ digB b := by
  unfold digR digB
  rcases digN_cases b.toNat with ⟨h1, h2, h3⟩ | ⟨h1, h2⟩
  · rw [h3, if_neg (by omega)]; omega
  · rcases h2 with h2 | h2
    · rw [if_pos h2]; omega
    · rw [h2, if_neg (by omega)]; omega
def Stop (l : List UInt8) : Prop := ∀ b, l.head? = some b → ¬ digB b ∧ b ≠ 95
theorem EBody.of2 {F : FuncId} {vs : List V} {r : Res} (h : EBody Tryz.prog TT F vs (fun x => x = r)) : Body Tryz.prog TT F vs r := by
  obtain ⟨fn, c, h1, h2, h3, o, ⟨r', rfl, k2⟩, hx⟩ := h
  exact ⟨fn, c, h1, h2, h3, o, k2, hx⟩
theorem spT (F : FuncId) (val : List UInt8 → V) (D : List UInt8 → Prop) (hv : ∀ x, nl (val x) = true) (h : ∀ x, D x → EBody Tryz.prog TT F [.s x] (fun r => r = .val (val x))) : ∃ g, SpecOK Tryz.prog TT F g ∧ ∀ x, D x → ∀ H, g [.s x] H = .val (val x) H :=
  spec_val TT_ok TT_plain F (fun x : List UInt8 => [.s x]) D val (fun x _ => by simp [nlL, nl]) hv (fun a b h => by
    simp only [List.cons.injEq, V.s.injEq, and_true] at h; rw [h]) fun x hx => EBody.of2 (h x hx)
theorem sp83p : ∃ g, SpecOK Tryz.prog TT 72 g ∧ ∀ c : Int, True → ∀ H, g [.i .u8 c] H = .val (.b (letR c || (c == 95))) H :=
  spec_val TT_ok TT_plain 72 (fun c : Int => [.i .u8 c]) (fun _ => True) (fun c => .b (letR c || (c == 95))) (fun x _ => by simp [nlL, nl]) (fun _ => rfl) (fun a b h => by simp only [List.cons.injEq, V.i.injEq, true_and, and_true] at h; rw [h]) fun c _ => body_83 n0 c
theorem sp99p : ∃ g, SpecOK Tryz.prog TT 50 g ∧ ∀ c : Int, True → ∀ H, g [.i .u8 c] H = .val (.b (decide (48 ≤ c) && decide (c ≤ 57))) H :=
  spec_val TT_ok TT_plain 50 (fun c : Int => [.i .u8 c]) (fun _ => True) (fun c => .b (decide (48 ≤ c) && decide (c ≤ 57))) (fun x _ => by simp [nlL, nl]) (fun _ => rfl) (fun a b h => by simp only [List.cons.injEq, V.i.injEq, true_and, and_true] at h; rw [h]) fun c _ => body_99 n0 c
theorem worR_eq (b : UInt8) : worR b.toNat = ((letR b.toNat || ((b.toNat : Int) == 95)) || (decide (48 ≤ (b.toNat : Int)) && decide ((b.toNat : Int) ≤ 57))) := by
  have e : decide (0 ≤ digR b.toNat 10) = (decide (48 ≤ (b.toNat : Int)) && decide ((b.toNat : Int) ≤ 57)) := by
    rw [Bool.eq_iff_iff]
    simp only [Bool.and_eq_true, decide_eq_true_eq]
    rw [digR10]
    unfold digB
    omega
  unfold worR
  rw [e]
  cases letR b.toNat <;> cases ((b.toNat : Int) == 95) <;> simp
theorem sp84p : ∃ g, SpecOK Tryz.prog TT 73 g ∧ ∀ b : UInt8, True → ∀ H, g [.i .u8 b.toNat] H = .val (.b (worR b.toNat)) H := by
  obtain ⟨g3, hg3, hs3⟩ := sp83p
  obtain ⟨g9, hg9, hs9⟩ := sp99p
  refine spec_val TT_ok TT_plain 73 (fun b : UInt8 => [.i .u8 b.toNat]) (fun _ => True) (fun b => .b (worR b.toNat)) (fun x _ => by simp [nlL, nl]) (fun _ => rfl) (fun a b h => by
    simp only [List.cons.injEq, V.i.injEq, true_and, and_true] at h; rw [h]) fun c _ => ?_
  rw [worR_eq]
  exact body_84 (ws (ws n0 hg3) hg9) c.toNat _ _ (fun H => by rw [w_other _ _ _ _ rfl, w_here]; exact hs3 _ trivial H) (fun H => by rw [w_here]; exact hs9 _ trivial H)
theorem sp71p : ∃ g, SpecOK Tryz.prog TT 49 g ∧ ∀ s : List UInt8, s.length < NT → ∀ H, g [.s s] H = .val (.i .i64 (idR s 0 : Nat)) H := by
  obtain ⟨g3, hg3, hs3⟩ := sp83p
  obtain ⟨g4, hg4, hs4⟩ := sp84p
  refine spT 49 (fun s => .i .i64 (idR s 0 : Nat)) (fun s => s.length < NT) (fun _ => rfl) fun s hs => ?_
  have hN : NT = 1090000 := rfl
  have hC := ws (ws n0 hg3) hg4
  cases s with
  | nil => exact body_71pn hC
  | cons c r =>
    have h83 : ∀ H, ((CallF.none.with 72 g3).with 73 g4) 72 [.i .u8 c.toNat] H = .val (.b (letR c.toNat || ((c.toNat : Int) == 95))) H := fun H => by rw [w_other _ _ _ _ rfl, w_here]; exact hs3 _ trivial H
    have hat : atR (c :: r) 0 = c.toNat := rfl
    cases hl : (letR c.toNat || ((c.toNat : Int) == 95)) with
    | false =>
      have e : idR (c :: r) 0 = 0 := by
        unfold idR
        rw [hat, if_pos]
        rw [Bool.or_eq_false_iff] at hl
        simp only [Bool.and_eq_true, Bool.not_eq_true', bne_iff_ne]
        exact ⟨hl.1, by have := hl.2; rw [beq_eq_false_iff_ne] at this; exact this⟩
      rw [e]
      exact body_71pf hC c r fun H => by rw [h83, hl]
    | true =>
      have hw : worR c.toNat = true := by rw [worR_eq, hl]; rfl
      have e : idR (c :: r) 0 = 1 + runW r + runQ (r.drop (runW r)) := by
        unfold idR
        rw [hat, if_neg]
        · simp only [List.drop_zero, Nat.zero_add]
          have e2 : runW (c :: r) = runW r + 1 := by simp only [runW, hw, if_true]
          rw [e2, List.drop_succ_cons]
          omega
        · intro h
          simp only [Bool.and_eq_true, Bool.not_eq_true', bne_iff_ne] at h
          rw [h.1, Bool.false_or, beq_iff_eq] at hl
          exact h.2 hl
      rw [e]
      exact body_71pt hC c r (by simp at hs ⊢; omega) (fun b H => by rw [w_here]; exact hs4 b trivial H) fun H => by rw [h83, hl]
theorem kw_eq (s : List UInt8) : kw s = (kwL.any fun x => x == s) := by
  have e : kwWords = kwL := by decide
  unfold kw
  rw [e, List.contains_eq_any_beq]
  congr 1
  funext x
  rw [Bool.eq_iff_iff]
  simp only [beq_iff_eq]
  exact ⟨fun h => h.symm, fun h => h.symm⟩
theorem sp52p : ∃ g, SpecOK Tryz.prog TT 40 g ∧ ∀ s : List UInt8, s.length < NT → ∀ H, g [.s s] H = .val (.b ((!s.isEmpty) && (((idR s 0 : Nat) : Int) == s.length) && !kw s)) H := by
  obtain ⟨g1, hg1, hs1⟩ := sp71p
  refine spec_val TT_ok TT_plain 40 (fun x : List UInt8 => [.s x]) (fun s => s.length < NT) (fun s => .b ((!s.isEmpty) && (((idR s 0 : Nat) : Int) == s.length) && !kw s)) (fun x _ => by simp [nlL, nl]) (fun _ => rfl) (fun a b h => by
    simp only [List.cons.injEq, V.s.injEq, and_true] at h; rw [h]) fun s hs => ?_
  exact body_52 (ws (ws n0 hg1) ok72) s _ (fun H => by rw [w_other _ _ _ _ rfl, w_here]; exact hs1 s hs H) (by rw [w_here]; rfl) (kw_lookup s)
theorem sp26p : ∃ g, SpecOK Tryz.prog TT 18 g ∧ ∀ s : List UInt8, True → ∀ H, g [.s s] H = .val (.b (isIdR s)) H := by
  obtain ⟨g1, hg1, hs1⟩ := sp52p
  have hN : NT = 1090000 := rfl
  refine spec_val TT_ok TT_plain 18 (fun x : List UInt8 => [.s x]) (fun s => True) (fun s => .b (isIdR s)) (fun x _ => by simp [nlL, nl]) (fun _ => rfl) (fun a b h => by
    simp only [List.cons.injEq, V.s.injEq, and_true] at h; rw [h]) fun s _ => ?_
  cases h : decide ((s.length : Int) ≤ 60) with
  | false =>
    have h2 : ¬ s.length ≤ 60 := by rw [decide_eq_false_iff_not] at h; omega
    have e : isIdR s = false := by simp only [isIdR, decide_eq_false h2, Bool.false_and, Bool.and_false]
    rw [e]
    exact body_26b n0 s h
  | true =>
    have h2 : s.length ≤ 60 := by rw [decide_eq_true_eq] at h; omega
    have e : isIdR s = ((!s.isEmpty) && (((idR s 0 : Nat) : Int) == s.length) && !kw s) := by
      simp only [isIdR, decide_eq_true h2, Bool.true_and, kw_eq]
      cases s <;> simp
    rw [e]
    exact body_26a (ws n0 hg1) s _ h fun H => by rw [w_here]; exact hs1 s (by omega) H
def fltV (e at_ : Int) : V := .ifc 50 (.agg [.i .i64 e, .i .i64 at_])
section
variable {P : Program} {T : Tab} {t t' : Tm} {H H' : Heap} {Q : Out → Prop} {v : V}
theorem Tri.regP (hT : TOk P T) {call : CallF} (hC : call.Sound P T) {id : Nat} {ops : Array Oper} {d : Bool} (he : evReg T call ops d t H = .pan v t' H') (h : Q (.pan v t' H')) : Tri P T (.region id ops d) t H Q := Tri.reg hT hC he h
theorem evSeq_panG {step : Oper → Env → Heap → OR} {ops : Array Oper} {o : Oper} {r : List Oper} {x : OR} {out : Out} (hw : wants ops o t.get = some true) (hs : step o t.get H = x) (hx : x = .pan v H') (ho : Out.pan v t H' = out) : evSeq step ops (o :: r) t H = out := (evSeq_pan hw (hs.trans hx)).trans ho
theorem endsP {T : Tab} {fn : Func} {R : Res → Prop} (hr : R (.pan v)) : ∃ r, R r ∧ Ends T fn r (.pan v t H) := ⟨_, hr, rfl⟩
theorem endsEN {fn : Func} {x : OR} {R : Res → Prop} (hf : finish TT fn t.get H = x) (hx : x = .val v H) (hr : R (.val v)) : ∃ r, R r ∧ Ends TT fn r (.norm t H) := ⟨_, hr, hf.trans hx⟩
end
attribute [simp] fltV evAssert eq1 eqFs
theorem body_2055t {call : CallF} (hC : call.Sound Tryz.prog TT) (e k : Int)  : EBody Tryz.prog TT 55 [.b true, .i .i64 e, .i .i64 k] (fun r => r = .val .un) := by
 refine en Tryz.f55 rfl rfl (by simp [Tryz.f55]) 12 rfl fun t hw hg => ?_
 have h0 := hg 0 _ rfl
 have h1 := hg 1 _ rfl
 have h2 := hg 2 _ rfl
 clear hg
 try simp only [Nd.enc_eq] at *
 have hF := ai @h0 (ai @h1 @h2)
 apply rS hC
 · iterate 2 refine oA ?_
   rfl
 refine cF (by simp [hF] <;> rfl) ?_
 apply Tri.skip
 refine endsEN (by simp [Tryz.f55] <;> rfl) (by rfl) ?_
 rfl
theorem body_2055f {call : CallF} (hC : call.Sound Tryz.prog TT) (e k : Int)  : EBody Tryz.prog TT 55 [.b false, .i .i64 e, .i .i64 k] (fun r => r = .pan (fltV e k)) := by
 refine en Tryz.f55 rfl rfl (by simp [Tryz.f55]) 12 rfl fun t hw hg => ?_
 have h0 := hg 0 _ rfl
 have h1 := hg 1 _ rfl
 have h2 := hg 2 _ rfl
 clear hg
 try simp only [Nd.enc_eq] at *
 have hF := ai @h0 (ai @h1 @h2)
 apply rS hC
 · iterate 2 refine oA ?_
   rfl
 refine cT (by simp [hF] <;> rfl) ?_
 refine Tri.regP (v := ?v3) (t' := ?t3) (H' := ?H3) TT_ok hC ?e3 ?q3
 case e3 =>
  refine go_false ?_
  iterate 4 refine oA ?_
  refine evSeq_panG rfl (by simp [hF] <;> rfl) (by rfl) ?_
  exact rfl
 refine endsP ?_
 rfl
def valN (c : Int) : Int := if digN c = -1 then 99 else digN c
theorem tab2094 : ([2, 10, 16].all fun base => (List.range 256).all fun c => match evFun TT (gamOf Con.none) 3000 94 [.i .u8 c, .i .i64 base] [] with | .val (.tup [.i .u64 n, .b b]) _ => n == valN c && b == decide (valN c < base) | _ => false) = true := by kernel_rfl
theorem sp2094 : ∃ g, SpecOK Tryz.prog TT 94 g ∧ ∀ c base : Int, 0 ≤ c → c < 256 → base = 2 ∨ base = 10 ∨ base = 16 → ∀ H, g [.i .u8 c, .i .i64 base] H = .val (.tup [.i .u64 (valN c), .b (decide (valN c < base))]) H := by
  obtain ⟨g, k, s⟩ := spec_con TT_ok TT_plain 94 (fun vs => ∃ c base : Int, 0 ≤ c ∧ c < 256 ∧ (base = 2 ∨ base = 10 ∨ base = 16) ∧ vs = [.i .u8 c, .i .i64 base]) (fun vs => match vs with | [.i .u8 c, .i .i64 base] => .val (.tup [.i .u64 (valN c), .b (decide (valN c < base))]) | _ => .val .un) (by
    rintro vs ⟨c, base, h0, h1, hb, rfl⟩
    refine ⟨rfl, rfl, 3000, ?_⟩
    have hm : base ∈ [2, 10, 16] := by rcases hb with rfl | rfl | rfl <;> simp
    obtain ⟨k, rfl, hk⟩ := range_at (List.all_eq_true.1 tab2094 base hm) h0 h1
    split at hk
    · rename_i n b J he
      rw [Bool.and_eq_true] at hk
      exact ⟨J, by rw [he, eq_of_beq hk.1, eq_of_beq hk.2]; rfl⟩
    · cases hk)
  exact ⟨g, k, fun c base h0 h1 hb H => s _ ⟨c, base, h0, h1, hb, rfl⟩ H⟩
theorem sp2055 : ∃ g, SpecOK Tryz.prog TT 55 g ∧ ∀ (b : Bool) (e k : Int) (H : Heap), g [.b b, .i .i64 e, .i .i64 k] H = if b = true then .val .un H else .pan (fltV e k) H := by
  obtain ⟨g, h, s⟩ := spec_pure (P := Tryz.prog) (T := TT) TT_ok TT_plain 55 (fun vs => ∃ (b : Bool) (e k : Int), vs = [.b b, .i .i64 e, .i .i64 k]) (fun vs r => ∃ (b : Bool) (e k : Int), vs = [.b b, .i .i64 e, .i .i64 k] ∧ r = if b = true then .val .un else .pan (fltV e k)) (by
    rintro vs ⟨b, e, k, rfl⟩
    refine ⟨rfl, ?_, ?_⟩
    · rintro r ⟨b', e', k', _, rfl⟩
      cases b' <;> rfl
    · cases b with
      | true =>
        obtain ⟨fn, c, h1, h2, h3, h4⟩ := body_2055t n0 e k
        exact ⟨fn, c, h1, h2, h3, h4.mono fun o ⟨r, hr, ho⟩ => ⟨r, ⟨true, e, k, rfl, by simpa using hr⟩, ho⟩⟩
      | false =>
        obtain ⟨fn, c, h1, h2, h3, h4⟩ := body_2055f n0 e k
        exact ⟨fn, c, h1, h2, h3, h4.mono fun o ⟨r, hr, ho⟩ => ⟨r, ⟨false, e, k, rfl, by simpa using hr⟩, ho⟩⟩)
  refine ⟨g, h, fun b e k H => ?_⟩
  obtain ⟨r, ⟨b', e', k', he, rfl⟩, h2⟩ := s _ ⟨b, e, k, rfl⟩
  simp only [List.cons.injEq, V.b.injEq, V.i.injEq, true_and, and_true] at he
  obtain ⟨rfl, rfl, rfl⟩ := he
  rw [h2]
  cases b <;> rfl
end Go.Ev
