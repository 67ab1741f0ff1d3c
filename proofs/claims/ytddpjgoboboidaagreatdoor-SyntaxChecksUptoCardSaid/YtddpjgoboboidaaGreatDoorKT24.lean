/- Walks over parts of a number. The exponent of a number. The exponent of a number, the whole. The fraction of a number. The end of a number. A number at a place: the walk. A number at a place. Walks over a comment of a line. Walks over a comment. -/
import Derived.Test.YtddpjgoboboidaaGreatDoorKT15
namespace Go.Ev
open Go Go.Proofs
set_option linter.unusedSimpArgs false
set_option linter.unusedVariables false
set_option maxRecDepth 100000
theorem r1146_19 {call : CallF} (hC : call.Sound Tryz.prog TT) {t : Tm} {H : Heap} {Q : Out → Prop} (hw : t.wid = 136) {c : Int} (h15 : t.get 15 = .i .u8 c) (hQ : ∀ t' : Tm, t'.wid = 136 → t'.get 76 = .b ((c == 101) || (c == 69)) → (∀ j, j < 70 → t'.get j = t.get j) → Q (.norm t' H)) : Tri Tryz.prog TT (sub [true, true, true, true, true, true, true, true, false, true, false, true, true, false] (bodyOf Tryz.f146)) t H Q := by
 cases hB1 : (c == 101 : Bool)
 case false =>
  apply rN hC
  · iterate 3 refine oA ?_
    iterate 2 refine oB ?_
    refine oA ?_
    rfl
  refine hQ _ (by simp [hw]) (by simp [*]) (fun j hj => ?_)
  have : ¬ j = 71 ∧ ¬ j = 72 ∧ ¬ j = 73 ∧ ¬ j = 74 ∧ ¬ j = 75 ∧ ¬ j = 76 := by omega
  simp [this]
 case true =>
  apply rN hC
  · iterate 3 refine oA ?_
    iterate 2 refine oC ?_
    refine oA ?_
    rfl
  refine hQ _ (by simp [hw]) (by simp [*]) (fun j hj => ?_)
  have : ¬ j = 71 ∧ ¬ j = 72 ∧ ¬ j = 73 ∧ ¬ j = 74 ∧ ¬ j = 75 ∧ ¬ j = 76 := by omega
  simp [this]
theorem r1146_23 {call : CallF} (hC : call.Sound Tryz.prog TT) {t : Tm} {H : Heap} {Q : Out → Prop} (hw : t.wid = 136) {c : Int} (h18 : t.get 18 = .i .u8 c) (hQ : ∀ t' : Tm, t'.wid = 136 → t'.get 87 = .b ((c == 43) || (c == 45)) → (∀ j, j < 80 → t'.get j = t.get j) → Q (.norm t' H)) : Tri Tryz.prog TT (sub [true, true, true, true, true, true, true, true, false, true, false, true, true, true, false, true, true, false, true, false] (bodyOf Tryz.f146)) t H Q := by
 cases hB1 : (c == 43 : Bool)
 case false =>
  apply rN hC
  · iterate 3 refine oA ?_
    iterate 2 refine oB ?_
    refine oA ?_
    rfl
  refine hQ _ (by simp [hw]) (by simp [*]) (fun j hj => ?_)
  have : ¬ j = 82 ∧ ¬ j = 83 ∧ ¬ j = 84 ∧ ¬ j = 85 ∧ ¬ j = 86 ∧ ¬ j = 87 := by omega
  simp [this]
 case true =>
  apply rN hC
  · iterate 3 refine oA ?_
    iterate 2 refine oC ?_
    refine oA ?_
    rfl
  refine hQ _ (by simp [hw]) (by simp [*]) (fun j hj => ?_)
  have : ¬ j = 82 ∧ ¬ j = 83 ∧ ¬ j = 84 ∧ ¬ j = 85 ∧ ¬ j = 86 ∧ ¬ j = 87 := by omega
  simp [this]
theorem r1146_13 {call : CallF} (hC : call.Sound Tryz.prog TT) {t : Tm} {H : Heap} {Q : Out → Prop} (hw : t.wid = 136) {s : List UInt8} {e : Nat} {a b d : Int} (h0 : t.get 0 = .s s) (h9 : t.get 9 = .i .i64 e) (hw1 : IntKind.i64.wrap ((e : Int) + 1) = (e : Int) + 1) (ha : ∀ H, call 142 [.s s, .i .i64 e] H = .val (.i .u8 a) H) (hb : ∀ H, call 142 [.s s, .i .i64 ((e : Int) + 1)] H = .val (.i .u8 b) H) (hd : ∀ H, call 145 [.i .u8 b, .i .i64 10] H = .val (.i .i64 d) H) (hQ : ∀ t' : Tm, t'.wid = 136 → t'.get 55 = .b ((a == 46) && decide (0 ≤ d)) → (∀ j, j < 40 → t'.get j = t.get j) → Q (.norm t' H)) : Tri Tryz.prog TT (sub [true, true, true, true, true, true, true, true, false, true, false, false, false] (bodyOf Tryz.f146)) t H Q := by
 have hF := ai @h0 (ai @h9 (ai @hw1 (ai @ha (ai @hb @hd))))
 cases hB1 : (a == 46 : Bool)
 case false =>
  apply rN hC
  · iterate 5 refine oA ?_
    iterate 6 refine oC ?_
    refine oA ?_
    rfl
  refine hQ _ (by simp [hw]) (by simp [*]) (fun j hj => ?_)
  have : ¬ j = 44 ∧ ¬ j = 45 ∧ ¬ j = 46 ∧ ¬ j = 47 ∧ ¬ j = 48 ∧ ¬ j = 49 ∧ ¬ j = 50 ∧ ¬ j = 51 ∧ ¬ j = 52 ∧ ¬ j = 53 ∧ ¬ j = 54 ∧ ¬ j = 55 := by omega
  simp [this]
 case true =>
  apply rN hC
  · iterate 5 refine oA ?_
    iterate 6 refine oB ?_
    refine oA ?_
    rfl
  refine hQ _ (by simp [hw]) (by simp [*]) (fun j hj => ?_)
  have : ¬ j = 44 ∧ ¬ j = 45 ∧ ¬ j = 46 ∧ ¬ j = 47 ∧ ¬ j = 48 ∧ ¬ j = 49 ∧ ¬ j = 50 ∧ ¬ j = 51 ∧ ¬ j = 52 ∧ ¬ j = 53 ∧ ¬ j = 54 ∧ ¬ j = 55 := by omega
  simp [this]
theorem r1146_32 {call : CallF} (hC : call.Sound Tryz.prog TT) {t : Tm} {H : Heap} {Q : Out → Prop} (hw : t.wid = 136) {s d : List UInt8} {e : Nat} {a : Int} {w : Bool} (h0 : t.get 0 = .s s) (h9 : t.get 9 = .i .i64 e) (h10 : t.get 10 = .s d) (ha : ∀ H, call 142 [.s s, .i .i64 e] H = .val (.i .u8 a) H) (hd : ∀ H, call 143 [.i .u8 a] H = .val (.b w) H) (hQ : ∀ t' : Tm, t'.wid = 136 → t'.get 118 = .b ((d == []) || w) → (∀ j, j < 110 → t'.get j = t.get j) → Q (.norm t' H)) : Tri Tryz.prog TT (sub [true, true, true, true, true, true, true, true, true, false, false] (bodyOf Tryz.f146)) t H Q := by
 have hF := ai @h0 (ai @h9 (ai @h10 (ai @ha @hd)))
 cases hB1 : (d == [] : Bool)
 case false =>
  apply rN hC
  · iterate 3 refine oA ?_
    iterate 4 refine oB ?_
    refine oA ?_
    rfl
  refine hQ _ (by simp [hw]) (by simp [*]) (fun j hj => ?_)
  have : ¬ j = 111 ∧ ¬ j = 112 ∧ ¬ j = 113 ∧ ¬ j = 114 ∧ ¬ j = 115 ∧ ¬ j = 116 ∧ ¬ j = 117 ∧ ¬ j = 118 := by omega
  simp [this]
 case true =>
  apply rN hC
  · iterate 3 refine oA ?_
    iterate 4 refine oC ?_
    refine oA ?_
    rfl
  refine hQ _ (by simp [hw]) (by simp [*]) (fun j hj => ?_)
  have : ¬ j = 111 ∧ ¬ j = 112 ∧ ¬ j = 113 ∧ ¬ j = 114 ∧ ¬ j = 115 ∧ ¬ j = 116 ∧ ¬ j = 117 ∧ ¬ j = 118 := by omega
  simp [this]
def signR (s : List UInt8) (k : Nat) : Nat × List UInt8 := if ((atR s k == 43) || (atR s k == 45)) = true then (k + 1, (s.take (k + 1)).drop k) else (k, [])
def expR (s : List UInt8) (e : Nat) (text : List UInt8) (k : Int) : Option (Nat × List UInt8 × Int) := if ((atR s e == 101) || (atR s e == 69)) = true then
    if (digL 10 (s.drop (signR s (e + 1)).1) [] false).2 = [] then none else some ((signR s (e + 1)).1 + (digL 10 (s.drop (signR s (e + 1)).1) [] false).1, text ++ 101 :: ((signR s (e + 1)).2 ++ (digL 10 (s.drop (signR s (e + 1)).1) [] false).2), 4)
  else some (e, text, k)
theorem atR_in {s : List UInt8} {i : Nat} (h : atR s i ≠ 0) : i < s.length := by
  unfold atR at h
  by_cases hi : i < s.length
  · exact hi
  · rw [List.getElem?_eq_none (by omega)] at h
    exact absurd rfl h
theorem digL_out (base : Int) : ∀ (L out : List UInt8) (pd : Bool), (digL base L out pd).2.length ≤ out.length + L.length
  | [], out, pd => by simp [digL]
  | b :: L, out, pd => by
    have h1 := digL_out base L (out ++ [b]) true
    have h2 := digL_out base L out false
    simp only [digL, List.length_cons]
    simp only [List.length_append, List.length_cons, List.length_nil] at h1
    split
    · simp only; omega
    · split <;> simp only <;> omega
theorem cat3 (a b c : List UInt8) (h : a.length + b.length + c.length < 2500000000) (hb : b.length ≤ 5) : evStr .add a [101] = some (.s (a ++ [101])) ∧ evStr .add (a ++ [101]) b = some (.s (a ++ 101 :: b)) ∧ evStr .add (a ++ 101 :: b) c = some (.s (a ++ 101 :: (b ++ c))) := by
  refine ⟨str_add _ _ (by simp; omega), ?_, ?_⟩
  · rw [str_add _ _ (by simp; omega)]; simp
  · rw [str_add _ _ (by simp; omega)]; simp
theorem exp26e {call : CallF} (hC : call.Sound Tryz.prog TT) {t : Tm} {Q : Out → Prop} (hw : t.wid = 136) {s d text sg more : List UInt8} {p n : Nat} {base k : Int} (h0 : t.get 0 = .s s) (h4 : t.get 4 = .ptr 0 0) (h7 : t.get 7 = .i .i64 base) (h10 : t.get 10 = .s d) (h11 : t.get 11 = .s text) (h12 : t.get 12 = .i .i64 k) (h16 : t.get 16 = .i .i64 p) (h17 : t.get 17 = .s sg)
    (hdg : ∀ H, call 156 [.s s, .i .i64 p, .i .i64 10] H = .val (.tup [.i .i64 n, .s more]) H) (hm : more = []) (hR : ∀ t' : Tm, t'.get 4 = .ptr 0 0 → t'.get 5 = .i .i64 0 → t'.get 6 = .i .i64 33 → Q (.ret t' [some ⟨125, [.i .i64 0, .s [], .i .i64 0, .b false], .all⟩])) : Tri Tryz.prog TT (sub [true, true, true, true, true, true, true, true, false, true, false, true, true, true, false, true, true, true] (bodyOf Tryz.f146)) t [some ⟨125, [.i .i64 0, .s [], .i .i64 0, .b false], .all⟩] Q := by
 have hF := ai @h0 (ai @h4 (ai @h7 (ai @h10 (ai @h11 (ai @h12 (ai @h16 (ai @h17 (ai @hdg @hm))))))))
 apply rS hC
 · iterate 8 refine oA ?_
   rfl
 apply sQ
 apply rS hC
 · iterate 2 refine oA ?_
   rfl
 refine cT (by simp [hF] <;> rfl) ?_
 apply rS hC
 · iterate 4 refine oA ?_
   rfl
 apply Tri.ret
 apply sR
 exact hR _ (by simp [h4]) (by simp) (by simp)
theorem exp26s {call : CallF} (hC : call.Sound Tryz.prog TT) {t : Tm} {Q : Out → Prop} (hw : t.wid = 136) {s d text sg more : List UInt8} {p n : Nat} {base k : Int} (h0 : t.get 0 = .s s) (h4 : t.get 4 = .ptr 0 0) (h7 : t.get 7 = .i .i64 base) (h10 : t.get 10 = .s d) (h11 : t.get 11 = .s text) (h12 : t.get 12 = .i .i64 k) (h16 : t.get 16 = .i .i64 p) (h17 : t.get 17 = .s sg)
    (hdg : ∀ H, call 156 [.s s, .i .i64 p, .i .i64 10] H = .val (.tup [.i .i64 n, .s more]) H) (hm : (more == []) = false) (hm2 : ¬ more = []) (hm3 : more.isEmpty = false) (ht : text.length + sg.length + more.length < 2500000000) (hsg : sg.length ≤ 5) (hN : ∀ t' : Tm, t'.wid = 136 → t'.get 0 = .s s → t'.get 4 = .ptr 0 0 → t'.get 7 = .i .i64 base → t'.get 10 = .s d → t'.get 9 = .i .i64 n → t'.get 11 = .s (text ++ 101 :: (sg ++ more)) → t'.get 12 = .i .i64 4 → Q (.norm t' [some ⟨125, [.i .i64 0, .s [], .i .i64 0, .b false], .all⟩])) : Tri Tryz.prog TT (sub [true, true, true, true, true, true, true, true, false, true, false, true, true, true, false, true, true, true] (bodyOf Tryz.f146)) t [some ⟨125, [.i .i64 0, .s [], .i .i64 0, .b false], .all⟩] Q := by
 have hF := ai @h0 (ai @h4 (ai @h7 (ai @h10 (ai @h11 (ai @h12 (ai @h16 (ai @h17 (ai @hdg (ai @hm (ai @hm2 @hm3))))))))))
 apply rS hC
 · iterate 8 refine oA ?_
   rfl
 apply sQ
 apply rS hC
 · iterate 2 refine oA ?_
   rfl
 refine cF (by simp [hF] <;> rfl) ?_
 apply Tri.skip
 apply sN
 apply rS hC
 · iterate 7 refine gO (by simp [hF, cat3 text sg more ht hsg, -evStr] <;> rfl) ?_
   rfl
 apply rS hC
 · iterate 2 refine oA ?_
   rfl
 apply rN hC
 · refine oA ?_
   rfl
 exact hN _ (by simp [hw]) (by simp [h0]) (by simp [h4]) (by simp [h7]) (by simp [h10]) (by simp) (by simp) (by simp)
theorem exp26 {call : CallF} (hC : call.Sound Tryz.prog TT) {t : Tm} {Q : Out → Prop} (hw : t.wid = 136) {s d text sg more : List UInt8} {p n : Nat} {base k : Int} (h0 : t.get 0 = .s s) (h4 : t.get 4 = .ptr 0 0) (h7 : t.get 7 = .i .i64 base) (h10 : t.get 10 = .s d) (h11 : t.get 11 = .s text) (h12 : t.get 12 = .i .i64 k) (h16 : t.get 16 = .i .i64 p) (h17 : t.get 17 = .s sg)
    (hdg : ∀ H, call 156 [.s s, .i .i64 p, .i .i64 10] H = .val (.tup [.i .i64 n, .s more]) H) (ht : text.length + sg.length + more.length < 2500000000) (hsg : sg.length ≤ 5)
    (hN : more ≠ [] → ∀ t' : Tm, t'.wid = 136 → t'.get 0 = .s s → t'.get 4 = .ptr 0 0 → t'.get 7 = .i .i64 base → t'.get 10 = .s d → t'.get 9 = .i .i64 n → t'.get 11 = .s (text ++ 101 :: (sg ++ more)) → t'.get 12 = .i .i64 4 → Q (.norm t' [some ⟨125, [.i .i64 0, .s [], .i .i64 0, .b false], .all⟩]))
    (hR : more = [] → ∀ t' : Tm, t'.get 4 = .ptr 0 0 → t'.get 5 = .i .i64 0 → t'.get 6 = .i .i64 33 → Q (.ret t' [some ⟨125, [.i .i64 0, .s [], .i .i64 0, .b false], .all⟩])) : Tri Tryz.prog TT (sub [true, true, true, true, true, true, true, true, false, true, false, true, true, true, false, true, true, true] (bodyOf Tryz.f146)) t [some ⟨125, [.i .i64 0, .s [], .i .i64 0, .b false], .all⟩] Q := by
  cases more with
  | nil => exact exp26e hC hw h0 h4 h7 h10 h11 h12 h16 h17 hdg rfl (hR rfl)
  | cons b l => exact exp26s hC hw h0 h4 h7 h10 h11 h12 h16 h17 hdg rfl (by simp) rfl ht hsg (hN (by simp))
theorem exp18 {call : CallF} (hC : call.Sound Tryz.prog TT) {t : Tm} {Q : Out → Prop} (hw : t.wid = 136) {s d text : List UInt8} {e : Nat} {base k : Int} (h0 : t.get 0 = .s s) (h4 : t.get 4 = .ptr 0 0) (h7 : t.get 7 = .i .i64 base) (h9 : t.get 9 = .i .i64 e) (h10 : t.get 10 = .s d) (h11 : t.get 11 = .s text) (h12 : t.get 12 = .i .i64 k) (hsl : s.length < 1000000000) (htl : text.length < 1200000000)
    (ha : ∀ (i : Nat) H, call 142 [.s s, .i .i64 i] H = .val (.i .u8 (atR s i)) H) (hdg : ∀ i : Nat, i ≤ s.length → ∀ H, call 156 [.s s, .i .i64 i, .i .i64 10] H = .val (.tup [.i .i64 ((i + (digL 10 (s.drop i) [] false).1 : Nat) : Int), .s (digL 10 (s.drop i) [] false).2]) H) (hel : e ≤ s.length)
    (hN : ∀ t' : Tm, t'.wid = 136 → t'.get 0 = .s s → t'.get 4 = .ptr 0 0 → t'.get 7 = .i .i64 base → t'.get 10 = .s d → ∀ (e' : Nat) (text' : List UInt8) (k' : Int), expR s e text k = some (e', text', k') → t'.get 9 = .i .i64 e' → t'.get 11 = .s text' → t'.get 12 = .i .i64 k' → Q (.norm t' [some ⟨125, [.i .i64 0, .s [], .i .i64 0, .b false], .all⟩]))
    (hR : expR s e text k = none → ∀ t' : Tm, t'.get 4 = .ptr 0 0 → t'.get 5 = .i .i64 0 → t'.get 6 = .i .i64 33 → Q (.ret t' [some ⟨125, [.i .i64 0, .s [], .i .i64 0, .b false], .all⟩])) : Tri Tryz.prog TT (sub [true, true, true, true, true, true, true, true, false, true, false, true] (bodyOf Tryz.f146)) t [some ⟨125, [.i .i64 0, .s [], .i .i64 0, .b false], .all⟩] Q := by
 have ha0 := ha e
 have hwe : IntKind.i64.wrap ((e : Int) + 1) = (e : Int) + 1 := wrap_i64 (by omega) (by omega)
 have hwe2 : IntKind.i64.wrap ((e : Int) + 1 + 1) = (e : Int) + 1 + 1 := wrap_i64 (by omega) (by omega)
 have hF := ai @h0 (ai @h4 (ai @h7 (ai @h9 (ai @h10 (ai @h11 (ai @h12 (ai @ha0 @hwe)))))))
 apply rS hC
 · iterate 4 refine oA ?_
   rfl
 apply sQ
 refine r1146_19 hC (by simp [hw]) (c := atR s e) (by simp [hF]) ?_
 clear hw
 intro t2 hw h76 hk
 have j0 : t2.get 0 = .s s := (hk 0 (by omega)).trans (by simp [hF])
 have j4 : t2.get 4 = .ptr 0 0 := (hk 4 (by omega)).trans (by simp [hF])
 have j7 : t2.get 7 = .i .i64 base := (hk 7 (by omega)).trans (by simp [hF])
 have j9 : t2.get 9 = .i .i64 e := (hk 9 (by omega)).trans (by simp [hF])
 have j10 : t2.get 10 = .s d := (hk 10 (by omega)).trans (by simp [hF])
 have j11 : t2.get 11 = .s text := (hk 11 (by omega)).trans (by simp [hF])
 have j12 : t2.get 12 = .i .i64 k := (hk 12 (by omega)).trans (by simp [hF])
 clear hk
 apply sN
 refine Tri.condG (o := ?o3) (b := ?b3) ?g3 ?r3 ?y3 ?n3
 case g3 => simp [hF, j0, j4, j7, j9, j10, j11, j12, h76] <;> rfl
 case r3 => rfl
 case y3 =>
  intro hy3
  have hin : e < s.length := atR_in (by intro h; rw [h] at hy3; simp at hy3)
  have ha1 := fun H => ha (e + 1) H
  simp only [Int.natCast_add, Int.cast_ofNat_Int] at ha1
  apply rS hC
  · iterate 3 refine oA ?_
    rfl
  apply rS hC
  · refine oA ?_
    rfl
  apply sQ
  apply rS hC
  · iterate 4 refine oA ?_
    rfl
  apply sQ
  refine r1146_23 hC (by simp [hw]) (c := atR s (e + 1)) (by simp [hF]) ?_
  clear hw
  intro t3 hw h87 hk
  have m0 : t3.get 0 = .s s := (hk 0 (by omega)).trans (by simp [j0, j4, j7, j9, j10, j11, j12])
  have m4 : t3.get 4 = .ptr 0 0 := (hk 4 (by omega)).trans (by simp [j0, j4, j7, j9, j10, j11, j12])
  have m7 : t3.get 7 = .i .i64 base := (hk 7 (by omega)).trans (by simp [j0, j4, j7, j9, j10, j11, j12])
  have m9 : t3.get 9 = .i .i64 e := (hk 9 (by omega)).trans (by simp [j0, j4, j7, j9, j10, j11, j12])
  have m10 : t3.get 10 = .s d := (hk 10 (by omega)).trans (by simp [j0, j4, j7, j9, j10, j11, j12])
  have m11 : t3.get 11 = .s text := (hk 11 (by omega)).trans (by simp [j0, j4, j7, j9, j10, j11, j12])
  have m12 : t3.get 12 = .i .i64 k := (hk 12 (by omega)).trans (by simp [j0, j4, j7, j9, j10, j11, j12])
  have m16 : t3.get 16 = .i .i64 ((e : Int) + 1) := (hk 16 (by omega)).trans (by simp [j0, j4, j7, j9, j10, j11, j12])
  have m17 : t3.get 17 = .s [] := (hk 17 (by omega)).trans (by simp [j0, j4, j7, j9, j10, j11, j12])
  clear hk
  apply sN
  refine Tri.condG (o := ?o8) (b := ?b8) ?g8 ?r8 ?y8 ?n8
  case g8 => simp [hF, j0, j4, j7, j9, j10, j11, j12, h76, m0, m4, m7, m9, m10, m11, m12, m16, m17, h87] <;> rfl
  case r8 => rfl
  case y8 =>
   intro hy8
   have hin2 : e + 1 < s.length := atR_in (by intro h; rw [h] at hy8; simp at hy8)
   have hsgn : signR s (e + 1) = (e + 1 + 1, (s.take (e + 1 + 1)).drop (e + 1)) := by
    simp only [signR]
    rw [if_pos hy8]
   have b1 : (0 : Int) ≤ (e : Int) + 1 + 1 := by omega
   have b2 : (e : Int) + 1 + 1 ≤ s.length := by omega
   have b3 : (e : Int) + 1 ≤ (e : Int) + 1 + 1 := by omega
   have b4 : ((e : Int) + 1 + 1).toNat = e + 1 + 1 := by omega
   have b5 : ((e : Int) + 1).toNat = e + 1 := by omega
   have b6 : (0 : Int) ≤ (e : Int) + 1 := by omega
   apply rS hC
   · iterate 6 refine oA ?_
     rfl
   apply rN hC
   · iterate 3 refine oA ?_
     rfl
   apply sN
   refine exp26 hC (by simp [hw]) (by simp [m0]) (by simp [m4]) (by simp [m7]) (by simp [m10]) (by simp [m11]) (by simp [m12]) (s := s) (d := d) (text := text) (base := base) (k := k) (p := e + 1 + 1) (sg := ((s.take (e + 1 + 1)).drop (e + 1))) (by simp [m16, hF]) (by simp [m17, hF]) (fun H => hdg _ (by omega) H) (by have := digL_out 10 (s.drop (e + 1 + 1)) [] false; simp at this ⊢; omega) (by simp <;> omega) ?cn26_11 ?cr26_11
   case cn26_11 =>
    intro hmore t4 hw q0 q4 q7 q10 q9 q11 q12
    have hexp : expR s e text k = some (e + 1 + 1 + (digL 10 (s.drop (e + 1 + 1)) [] false).1, text ++ 101 :: (((s.take (e + 1 + 1)).drop (e + 1)) ++ (digL 10 (s.drop (e + 1 + 1)) [] false).2), 4) := by
     simp only [expR, hsgn]
     rw [if_pos hy3, if_neg hmore]
    first
     | exact hN _ (by simp [hw]) (by simp [j0]) (by simp [j4]) (by simp [j7]) (by simp [j10]) e text k (by simp only [expR]; rw [if_neg (by simp [hn3])]) (by simp [j9]) (by simp [j11]) (by simp [j12])
     | exact hN _ hw q0 q4 q7 q10 _ _ _ hexp q9 q11 q12
   case cr26_11 =>
    intro hmore t4 q4 q5 q6
    have hexp : expR s e text k = none := by
     simp only [expR, hsgn]
     rw [if_pos hy3, if_pos hmore]
    exact hR hexp _ q4 q5 q6
  case n8 =>
   intro hn8
   have hsgn : signR s (e + 1) = (e + 1, []) := by
    simp only [signR]
    rw [if_neg (by rw [hn8]; simp)]
   apply Tri.skip
   apply sN
   refine exp26 hC (by simp [hw]) (by simp [m0]) (by simp [m4]) (by simp [m7]) (by simp [m10]) (by simp [m11]) (by simp [m12]) (s := s) (d := d) (text := text) (base := base) (k := k) (p := e + 1) (sg := []) (by simp [m16, hF]) (by simp [m17, hF]) (fun H => hdg _ (by omega) H) (by have := digL_out 10 (s.drop (e + 1)) [] false; simp at this ⊢; omega) (by simp <;> omega) ?cn26_12 ?cr26_12
   case cn26_12 =>
    intro hmore t4 hw q0 q4 q7 q10 q9 q11 q12
    have hexp : expR s e text k = some (e + 1 + (digL 10 (s.drop (e + 1)) [] false).1, text ++ 101 :: ([] ++ (digL 10 (s.drop (e + 1)) [] false).2), 4) := by
     simp only [expR, hsgn]
     rw [if_pos hy3, if_neg hmore]
    first
     | exact hN _ (by simp [hw]) (by simp [j0]) (by simp [j4]) (by simp [j7]) (by simp [j10]) e text k (by simp only [expR]; rw [if_neg (by simp [hn3])]) (by simp [j9]) (by simp [j11]) (by simp [j12])
     | exact hN _ hw q0 q4 q7 q10 _ _ _ hexp q9 q11 q12
   case cr26_12 =>
    intro hmore t4 q4 q5 q6
    have hexp : expR s e text k = none := by
     simp only [expR, hsgn]
     rw [if_pos hy3, if_pos hmore]
    exact hR hexp _ q4 q5 q6
 case n3 =>
  intro hn3
  apply Tri.skip
  first
   | exact hN _ (by simp [hw]) (by simp [j0]) (by simp [j4]) (by simp [j7]) (by simp [j10]) e text k (by simp only [expR]; rw [if_neg (by simp [hn3])]) (by simp [j9]) (by simp [j11]) (by simp [j12])
   | exact hN _ hw q0 q4 q7 q10 _ _ _ hexp q9 q11 q12
def fracR (s : List UInt8) (e : Nat) (d : List UInt8) : Nat × List UInt8 × Int := if ((atR s e == 46) && decide (0 ≤ digR (atR s (e + 1)) 10)) = true then (e + 1 + (digL 10 (s.drop (e + 1)) [] false).1, d ++ 46 :: (digL 10 (s.drop (e + 1)) [] false).2, 4) else (e, d, 3)
def restR (s : List UInt8) (e : Nat) (d : List UInt8) : Option (Nat × List UInt8 × Int) := expR s (fracR s e d).1 (fracR s e d).2.1 (fracR s e d).2.2
theorem cat2 (a c : List UInt8) (h : a.length + c.length < 2500000000) : evStr .add a [46] = some (.s (a ++ [46])) ∧ evStr .add (a ++ [46]) c = some (.s (a ++ 46 :: c)) := by
  refine ⟨str_add _ _ (by simp; omega), ?_⟩
  rw [str_add _ _ (by simp; omega)]; simp
theorem frac13 {call : CallF} (hC : call.Sound Tryz.prog TT) {t : Tm} {Q : Out → Prop} (hw : t.wid = 136) {s d : List UInt8} {e : Nat} {base : Int} (h0 : t.get 0 = .s s) (h4 : t.get 4 = .ptr 0 0) (h7 : t.get 7 = .i .i64 base) (h9 : t.get 9 = .i .i64 e) (h10 : t.get 10 = .s d) (h11 : t.get 11 = .s d) (h12 : t.get 12 = .i .i64 3) (hsl : s.length < 1000000000) (hdl : d.length < 100000000 + s.length) (hsl2 : s.length < 100000000)
    (ha : ∀ (i : Nat) H, call 142 [.s s, .i .i64 i] H = .val (.i .u8 (atR s i)) H) (hdg : ∀ i : Nat, i ≤ s.length → ∀ H, call 156 [.s s, .i .i64 i, .i .i64 10] H = .val (.tup [.i .i64 ((i + (digL 10 (s.drop i) [] false).1 : Nat) : Int), .s (digL 10 (s.drop i) [] false).2]) H) (hel : e ≤ s.length)
    (hd1 : ∀ H, call 145 [.i .u8 (atR s (e + 1)), .i .i64 10] H = .val (.i .i64 (digR (atR s (e + 1)) 10)) H)
    (hN : ∀ t' : Tm, t'.wid = 136 → t'.get 0 = .s s → t'.get 4 = .ptr 0 0 → t'.get 7 = .i .i64 base → t'.get 10 = .s d → ∀ (e' : Nat) (text' : List UInt8) (k' : Int), restR s e d = some (e', text', k') → t'.get 9 = .i .i64 e' → t'.get 11 = .s text' → t'.get 12 = .i .i64 k' → Q (.norm t' [some ⟨125, [.i .i64 0, .s [], .i .i64 0, .b false], .all⟩]))
    (hR : restR s e d = none → ∀ t' : Tm, t'.get 4 = .ptr 0 0 → t'.get 5 = .i .i64 0 → t'.get 6 = .i .i64 33 → Q (.ret t' [some ⟨125, [.i .i64 0, .s [], .i .i64 0, .b false], .all⟩])) : Tri Tryz.prog TT (sub [true, true, true, true, true, true, true, true, false, true, false] (bodyOf Tryz.f146)) t [some ⟨125, [.i .i64 0, .s [], .i .i64 0, .b false], .all⟩] Q := by
 have ha0 := ha e
 have ha1 := fun H => ha (e + 1) H
 simp only [Int.natCast_add, Int.cast_ofNat_Int] at ha1
 have hwe : IntKind.i64.wrap ((e : Int) + 1) = (e : Int) + 1 := wrap_i64 (by omega) (by omega)
 have hF := ai @h0 (ai @h4 (ai @h7 (ai @h9 (ai @h10 (ai @h11 @h12)))))
 iterate 2 apply sQ
 refine r1146_13 hC (by simp [hw]) (s := s) (e := e) (a := atR s e) (b := atR s (e + 1)) (d := digR (atR s (e + 1)) 10) (by simp [hF]) (by simp [hF]) hwe ha0 ha1 hd1 ?_
 clear hw
 intro t2 hw h55 hk
 have j0 : t2.get 0 = .s s := (hk 0 (by omega)).trans (by simp [hF])
 have j4 : t2.get 4 = .ptr 0 0 := (hk 4 (by omega)).trans (by simp [hF])
 have j7 : t2.get 7 = .i .i64 base := (hk 7 (by omega)).trans (by simp [hF])
 have j9 : t2.get 9 = .i .i64 e := (hk 9 (by omega)).trans (by simp [hF])
 have j10 : t2.get 10 = .s d := (hk 10 (by omega)).trans (by simp [hF])
 have j11 : t2.get 11 = .s d := (hk 11 (by omega)).trans (by simp [hF])
 have j12 : t2.get 12 = .i .i64 3 := (hk 12 (by omega)).trans (by simp [hF])
 clear hk
 apply sN
 refine Tri.condG (o := ?o2) (b := ?b2) ?g2 ?r2 ?y2 ?n2
 case g2 => simp [hF, j0, j4, j7, j9, j10, j11, j12, h55] <;> rfl
 case r2 => rfl
 case y2 =>
  intro hy2
  have hin : e < s.length := atR_in (by intro h; rw [h] at hy2; simp at hy2)
  have hdg1 := fun H => hdg (e + 1) (by omega) H
  simp only [Int.natCast_add, Int.cast_ofNat_Int] at hdg1
  have hcl : d.length + (digL 10 (s.drop (e + 1)) [] false).2.length < 2500000000 := by
   have := digL_out 10 (s.drop (e + 1)) [] false
   simp at this
   omega
  have hfr : fracR s e d = (e + 1 + (digL 10 (s.drop (e + 1)) [] false).1, d ++ 46 :: (digL 10 (s.drop (e + 1)) [] false).2, 4) := by
   simp only [fracR]
   rw [if_pos hy2]
  apply rS hC
  · iterate 9 refine oA ?_
    rfl
  apply rS hC
  · iterate 5 refine gO (by simp [hF, j0, j4, j7, j9, j10, j11, j12, h55, cat2 d (digL 10 (s.drop (e + 1)) [] false).2 hcl, -evStr] <;> rfl) ?_
    rfl
  apply rS hC
  · iterate 2 refine oA ?_
    rfl
  apply rN hC
  · refine oA ?_
    rfl
  apply sN
  refine exp18 hC (by simp [hw]) (s := s) (d := d) (text := d ++ 46 :: (digL 10 (s.drop (e + 1)) [] false).2) (e := e + 1 + (digL 10 (s.drop (e + 1)) [] false).1) (base := base) (k := 4) (by simp [j0]) (by simp [j4]) (by simp [j7]) (by simp) (by simp [j10]) (by simp [j11]) (by simp [j12]) hsl (by have := digL_out 10 (s.drop (e + 1)) [] false; simp at this ⊢; omega) ha hdg (by have := digL_le 10 (s.drop (e + 1)) [] false; simp at this; omega) ?cn18_7 ?cr18_7
  case cn18_7 =>
   intro t4 hw q0 q4 q7 q10 e' text' k' hexp q9 q11 q12
   exact hN _ hw q0 q4 q7 q10 e' text' k' (by rw [restR, hfr]; exact hexp) q9 q11 q12
  case cr18_7 =>
   intro hexp t4 q4 q5 q6
   exact hR (by rw [restR, hfr]; exact hexp) _ q4 q5 q6
 case n2 =>
  intro hn2
  have hfr : fracR s e d = (e, d, 3) := by
   simp only [fracR]
   rw [if_neg (by rw [hn2]; simp)]
  apply Tri.skip
  apply sN
  refine exp18 hC (by simp [hw]) (s := s) (d := d) (text := d) (e := e) (base := base) (k := 3) (by simp [j0]) (by simp [j4]) (by simp [j7]) (by simp [j9]) (by simp [j10]) (by simp [j11]) (by simp [j12]) hsl (by omega) ha hdg hel ?cn18_8 ?cr18_8
  case cn18_8 =>
   intro t4 hw q0 q4 q7 q10 e' text' k' hexp q9 q11 q12
   exact hN _ hw q0 q4 q7 q10 e' text' k' (by rw [restR, hfr]; exact hexp) q9 q11 q12
  case cr18_8 =>
   intro hexp t4 q4 q5 q6
   exact hR (by rw [restR, hfr]; exact hexp) _ q4 q5 q6
theorem tail32f {call : CallF} (hC : call.Sound Tryz.prog TT) {t : Tm} {Q : Out → Prop} (hw : t.wid = 136) {s d text : List UInt8} {e : Nat} {base k a : Int} {w : Bool} (h0 : t.get 0 = .s s) (h4 : t.get 4 = .ptr 0 0) (h7 : t.get 7 = .i .i64 base) (h9 : t.get 9 = .i .i64 e) (h10 : t.get 10 = .s d) (h11 : t.get 11 = .s text) (h12 : t.get 12 = .i .i64 4)
    (ha : ∀ H, call 142 [.s s, .i .i64 e] H = .val (.i .u8 a) H) (hwd : ∀ H, call 143 [.i .u8 a] H = .val (.b w) H) (hO : ((d == []) || w) = false → ∀ t' : Tm, t'.get 4 = .ptr 0 0 → t'.get 5 = .i .i64 e → t'.get 6 = .i .i64 0 → Q (.ret t' [some ⟨125, [.i .i64 4, .s text, .i .i64 0, .b false], .all⟩]))
    (hE : ((d == []) || w) = true → ∀ t' : Tm, t'.get 4 = .ptr 0 0 → t'.get 5 = .i .i64 0 → t'.get 6 = .i .i64 33 → Q (.ret t' [some ⟨125, [.i .i64 0, .s [], .i .i64 0, .b false], .all⟩])) : Tri Tryz.prog TT (sub [true, true, true, true, true, true, true, true, true] (bodyOf Tryz.f146)) t [some ⟨125, [.i .i64 0, .s [], .i .i64 0, .b false], .all⟩] Q := by
 have hF := ai @h0 (ai @h4 (ai @h7 (ai @h9 (ai @h10 (ai @h11 @h12)))))
 iterate 2 apply sQ
 refine r1146_32 hC (by simp [hw]) (s := s) (d := d) (e := e) (a := a) (w := w) (by simp [hF]) (by simp [hF]) (by simp [hF]) ha hwd ?_
 clear hw
 intro t2 hw h118 hk
 have j0 : t2.get 0 = .s s := (hk 0 (by omega)).trans (by simp [hF])
 have j4 : t2.get 4 = .ptr 0 0 := (hk 4 (by omega)).trans (by simp [hF])
 have j7 : t2.get 7 = .i .i64 base := (hk 7 (by omega)).trans (by simp [hF])
 have j9 : t2.get 9 = .i .i64 e := (hk 9 (by omega)).trans (by simp [hF])
 have j10 : t2.get 10 = .s d := (hk 10 (by omega)).trans (by simp [hF])
 have j11 : t2.get 11 = .s text := (hk 11 (by omega)).trans (by simp [hF])
 have j12 : t2.get 12 = .i .i64 4 := (hk 12 (by omega)).trans (by simp [hF])
 clear hk
 apply sN
 refine Tri.condG (o := ?o2) (b := ?b2) ?g2 ?r2 ?y2 ?n2
 case g2 => simp [hF, j0, j4, j7, j9, j10, j11, j12, h118] <;> rfl
 case r2 => rfl
 case y2 =>
  intro hy2
  apply rS hC
  · iterate 4 refine oA ?_
    rfl
  apply Tri.ret
  apply sR
  exact hE (by simpa using hy2) _ (by simp [j4]) (by simp) (by simp)
 case n2 =>
  intro hn2
  apply Tri.skip
  apply sN
  apply sQ
  apply rS hC
  · iterate 2 refine oA ?_
    rfl
  refine cF (by simp [hF, j0, j4, j7, j9, j10, j11, j12, h118] <;> rfl) ?_
  apply Tri.skip
  apply sN
  apply rS hC
  · iterate 7 refine oA ?_
    rfl
  apply Tri.ret
  exact hO (by simpa using hn2) _ (by simp [j4]) (by simp) (by simp)
theorem tail32i {call : CallF} (hC : call.Sound Tryz.prog TT) {t : Tm} {Q : Out → Prop} (hw : t.wid = 136) {s d text : List UInt8} {e : Nat} {base k a : Int} {w : Bool} (h0 : t.get 0 = .s s) (h4 : t.get 4 = .ptr 0 0) (h7 : t.get 7 = .i .i64 base) (h9 : t.get 9 = .i .i64 e) (h10 : t.get 10 = .s d) (h11 : t.get 11 = .s text) (h12 : t.get 12 = .i .i64 3)
    (ha : ∀ H, call 142 [.s s, .i .i64 e] H = .val (.i .u8 a) H) (hwd : ∀ H, call 143 [.i .u8 a] H = .val (.b w) H) {o : List UInt8} (hdec : ∀ H, call 157 [.s d, .i .i64 base] H = .val (.tup [.s o, .b true]) H) (hO : ((d == []) || w) = false → ∀ t' : Tm, t'.get 4 = .ptr 0 0 → t'.get 5 = .i .i64 e → t'.get 6 = .i .i64 0 → Q (.ret t' [some ⟨125, [.i .i64 3, .s o, .i .i64 0, .b false], .all⟩]))
    (hE : ((d == []) || w) = true → ∀ t' : Tm, t'.get 4 = .ptr 0 0 → t'.get 5 = .i .i64 0 → t'.get 6 = .i .i64 33 → Q (.ret t' [some ⟨125, [.i .i64 0, .s [], .i .i64 0, .b false], .all⟩])) : Tri Tryz.prog TT (sub [true, true, true, true, true, true, true, true, true] (bodyOf Tryz.f146)) t [some ⟨125, [.i .i64 0, .s [], .i .i64 0, .b false], .all⟩] Q := by
 have hF := ai @h0 (ai @h4 (ai @h7 (ai @h9 (ai @h10 (ai @h11 @h12)))))
 iterate 2 apply sQ
 refine r1146_32 hC (by simp [hw]) (s := s) (d := d) (e := e) (a := a) (w := w) (by simp [hF]) (by simp [hF]) (by simp [hF]) ha hwd ?_
 clear hw
 intro t2 hw h118 hk
 have j0 : t2.get 0 = .s s := (hk 0 (by omega)).trans (by simp [hF])
 have j4 : t2.get 4 = .ptr 0 0 := (hk 4 (by omega)).trans (by simp [hF])
 have j7 : t2.get 7 = .i .i64 base := (hk 7 (by omega)).trans (by simp [hF])
 have j9 : t2.get 9 = .i .i64 e := (hk 9 (by omega)).trans (by simp [hF])
 have j10 : t2.get 10 = .s d := (hk 10 (by omega)).trans (by simp [hF])
 have j11 : t2.get 11 = .s text := (hk 11 (by omega)).trans (by simp [hF])
 have j12 : t2.get 12 = .i .i64 3 := (hk 12 (by omega)).trans (by simp [hF])
 clear hk
 apply sN
 refine Tri.condG (o := ?o2) (b := ?b2) ?g2 ?r2 ?y2 ?n2
 case g2 => simp [hF, j0, j4, j7, j9, j10, j11, j12, h118, hdec] <;> rfl
 case r2 => rfl
 case y2 =>
  intro hy2
  apply rS hC
  · iterate 4 refine oA ?_
    rfl
  apply Tri.ret
  apply sR
  exact hE (by simpa using hy2) _ (by simp [j4]) (by simp) (by simp)
 case n2 =>
  intro hn2
  apply Tri.skip
  apply sN
  apply sQ
  apply rS hC
  · iterate 2 refine oA ?_
    rfl
  refine cT (by simp [hF, j0, j4, j7, j9, j10, j11, j12, h118, hdec] <;> rfl) ?_
  apply rS hC
  · iterate 8 refine oA ?_
    rfl
  apply sQ
  apply rS hC
  · iterate 2 refine oA ?_
    rfl
  refine cF (by simp [hF, j0, j4, j7, j9, j10, j11, j12, h118, hdec] <;> rfl) ?_
  apply Tri.skip
  apply sN
  apply rN hC
  · iterate 2 refine oA ?_
    rfl
  apply sN
  apply rS hC
  · iterate 7 refine oA ?_
    rfl
  apply Tri.ret
  exact hO (by simpa using hn2) _ (by simp [j4]) (by simp) (by simp)
theorem tail32o {call : CallF} (hC : call.Sound Tryz.prog TT) {t : Tm} {Q : Out → Prop} (hw : t.wid = 136) {s d text : List UInt8} {e : Nat} {base k a : Int} {w : Bool} (h0 : t.get 0 = .s s) (h4 : t.get 4 = .ptr 0 0) (h7 : t.get 7 = .i .i64 base) (h9 : t.get 9 = .i .i64 e) (h10 : t.get 10 = .s d) (h11 : t.get 11 = .s text) (h12 : t.get 12 = .i .i64 3)
    (ha : ∀ H, call 142 [.s s, .i .i64 e] H = .val (.i .u8 a) H) (hwd : ∀ H, call 143 [.i .u8 a] H = .val (.b w) H) (hdec : ∀ H, call 157 [.s d, .i .i64 base] H = .val (.tup [.s [], .b false]) H) (hO : ((d == []) || w) = false → ∀ t' : Tm, t'.get 4 = .ptr 0 0 → t'.get 5 = .i .i64 0 → t'.get 6 = .i .i64 33 → Q (.ret t' [some ⟨125, [.i .i64 0, .s [], .i .i64 0, .b false], .all⟩]))
    (hE : ((d == []) || w) = true → ∀ t' : Tm, t'.get 4 = .ptr 0 0 → t'.get 5 = .i .i64 0 → t'.get 6 = .i .i64 33 → Q (.ret t' [some ⟨125, [.i .i64 0, .s [], .i .i64 0, .b false], .all⟩])) : Tri Tryz.prog TT (sub [true, true, true, true, true, true, true, true, true] (bodyOf Tryz.f146)) t [some ⟨125, [.i .i64 0, .s [], .i .i64 0, .b false], .all⟩] Q := by
 have hF := ai @h0 (ai @h4 (ai @h7 (ai @h9 (ai @h10 (ai @h11 @h12)))))
 iterate 2 apply sQ
 refine r1146_32 hC (by simp [hw]) (s := s) (d := d) (e := e) (a := a) (w := w) (by simp [hF]) (by simp [hF]) (by simp [hF]) ha hwd ?_
 clear hw
 intro t2 hw h118 hk
 have j0 : t2.get 0 = .s s := (hk 0 (by omega)).trans (by simp [hF])
 have j4 : t2.get 4 = .ptr 0 0 := (hk 4 (by omega)).trans (by simp [hF])
 have j7 : t2.get 7 = .i .i64 base := (hk 7 (by omega)).trans (by simp [hF])
 have j9 : t2.get 9 = .i .i64 e := (hk 9 (by omega)).trans (by simp [hF])
 have j10 : t2.get 10 = .s d := (hk 10 (by omega)).trans (by simp [hF])
 have j11 : t2.get 11 = .s text := (hk 11 (by omega)).trans (by simp [hF])
 have j12 : t2.get 12 = .i .i64 3 := (hk 12 (by omega)).trans (by simp [hF])
 clear hk
 apply sN
 refine Tri.condG (o := ?o2) (b := ?b2) ?g2 ?r2 ?y2 ?n2
 case g2 => simp [hF, j0, j4, j7, j9, j10, j11, j12, h118, hdec] <;> rfl
 case r2 => rfl
 case y2 =>
  intro hy2
  apply rS hC
  · iterate 4 refine oA ?_
    rfl
  apply Tri.ret
  apply sR
  exact hE (by simpa using hy2) _ (by simp [j4]) (by simp) (by simp)
 case n2 =>
  intro hn2
  apply Tri.skip
  apply sN
  apply sQ
  apply rS hC
  · iterate 2 refine oA ?_
    rfl
  refine cT (by simp [hF, j0, j4, j7, j9, j10, j11, j12, h118, hdec] <;> rfl) ?_
  apply rS hC
  · iterate 8 refine oA ?_
    rfl
  apply sQ
  apply rS hC
  · iterate 2 refine oA ?_
    rfl
  refine cT (by simp [hF, j0, j4, j7, j9, j10, j11, j12, h118, hdec] <;> rfl) ?_
  apply rS hC
  · iterate 4 refine oA ?_
    rfl
  apply Tri.ret
  iterate 2 apply sR
  exact hO (by simpa using hn2) _ (by simp [j4]) (by simp) (by simp)
def tokV (k : Int) (t : List UInt8) : V := .agg [.i .i64 k, .s t, .i .i64 0, .b false]
def errV : V := .tup [tokV 0 [], .i .i64 0, .i .i64 33]
def okV (k : Int) (t : List UInt8) (e : Nat) : V := .tup [tokV k t, .i .i64 e, .i .i64 0]
def NumEnd (s d : List UInt8) (base e : Nat) (text : List UInt8) (k : Int) (v : V) : Prop :=
  (((d == []) || worR (atR s e)) = true ∧ v = errV) ∨ (((d == []) || worR (atR s e)) = false ∧ ((k = 4 ∧ v = okV 4 text e) ∨ (k = 3 ∧ ((∃ o, Canon o ∧ valD o = numF base d 0 ∧ numF base d 0 ≤ valD maxS ∧ v = okV 3 o e) ∨ (valD maxS < numF base d 0 ∧ v = errV)))))
theorem tail32 {call : CallF} (hC : call.Sound Tryz.prog TT) {t : Tm} {Q : Out → Prop} (hw : t.wid = 136) {s d text : List UInt8} {e base : Nat} {k : Int} (h0 : t.get 0 = .s s) (h4 : t.get 4 = .ptr 0 0) (h7 : t.get 7 = .i .i64 (base : Int)) (h9 : t.get 9 = .i .i64 e) (h10 : t.get 10 = .s d) (h11 : t.get 11 = .s text) (h12 : t.get 12 = .i .i64 k)
    (ha : ∀ H, call 142 [.s s, .i .i64 e] H = .val (.i .u8 (atR s e)) H) (hwd : ∀ H, call 143 [.i .u8 (atR s e)] H = .val (.b (worR (atR s e))) H) (hk : k = 3 ∨ k = 4) (hdec : ∃ r, DecR d base r ∧ ∀ H, call 157 [.s d, .i .i64 base] H = .val r H)
    (hV : ∀ (t' : Tm) (k2 : Int) (t2 : List UInt8) (e2 c2 : Int), t'.get 4 = .ptr 0 0 → t'.get 5 = .i .i64 e2 → t'.get 6 = .i .i64 c2 → NumEnd s d base e text k (.tup [tokV k2 t2, .i .i64 e2, .i .i64 c2]) → Q (.ret t' [some ⟨125, [.i .i64 k2, .s t2, .i .i64 0, .b false], .all⟩])) : Tri Tryz.prog TT (sub [true, true, true, true, true, true, true, true, true] (bodyOf Tryz.f146)) t [some ⟨125, [.i .i64 0, .s [], .i .i64 0, .b false], .all⟩] Q := by
  have hE : ((d == []) || worR (atR s e)) = true → ∀ t' : Tm, t'.get 4 = .ptr 0 0 → t'.get 5 = .i .i64 0 → t'.get 6 = .i .i64 33 → Q (.ret t' [some ⟨125, [.i .i64 0, .s [], .i .i64 0, .b false], .all⟩]) := fun h t' a b c => hV t' 0 [] 0 33 a b c (.inl ⟨h, rfl⟩)
  rcases hk with rfl | rfl
  · obtain ⟨r, ⟨o, o1, o2, o3, rfl⟩ | ⟨o1, rfl⟩, hr⟩ := hdec
    · exact tail32i (k := 0) hC hw h0 h4 h7 h9 h10 h11 h12 ha hwd hr (fun h t' a b c => hV t' 3 o e 0 a b c (.inr ⟨h, .inr ⟨rfl, .inl ⟨o, o1, o2, o3, rfl⟩⟩⟩)) hE
    · exact tail32o (k := 0) hC hw h0 h4 h7 h9 h10 h11 h12 ha hwd hr (fun h t' a b c => hV t' 0 [] 0 33 a b c (.inr ⟨h, .inr ⟨rfl, .inr ⟨o1, rfl⟩⟩⟩)) hE
  · exact tail32f (k := 0) hC hw h0 h4 h7 h9 h10 h11 h12 ha hwd (fun h t' a b c => hV t' 4 text e 0 a b c (.inr ⟨h, .inl ⟨rfl, rfl⟩⟩)) hE
theorem restR_k {s d : List UInt8} {e e' : Nat} {t' : List UInt8} {k' : Int} (h : restR s e d = some (e', t', k')) : k' = 3 ∨ k' = 4 := by
  unfold restR expR at h
  split at h
  · split at h
    · cases h
    · cases h; exact .inr rfl
  · cases h
    unfold fracR
    split
    · exact .inr rfl
    · exact .inl rfl
def NumR (s : List UInt8) (i : Nat) (v : V) : Prop :=
  if begR s i [48, 120] = true then NumEnd s (digL 16 (s.drop (i + 2)) [] false).2 16 (i + 2 + (digL 16 (s.drop (i + 2)) [] false).1) (digL 16 (s.drop (i + 2)) [] false).2 3 v
  else if begR s i [48, 98] = true then NumEnd s (digL 2 (s.drop (i + 2)) [] false).2 2 (i + 2 + (digL 2 (s.drop (i + 2)) [] false).1) (digL 2 (s.drop (i + 2)) [] false).2 3 v
  else (restR s (i + (digL 10 (s.drop i) [] false).1) (digL 10 (s.drop i) [] false).2 = none ∧ v = errV) ∨ ∃ e' t' k', restR s (i + (digL 10 (s.drop i) [] false).1) (digL 10 (s.drop i) [] false).2 = some (e', t', k') ∧ NumEnd s (digL 10 (s.drop i) [] false).2 10 e' t' k' v
theorem body_1146x {call : CallF} (hC : call.Sound Tryz.prog TT) (s : List UInt8) (i : Nat) (hsl : s.length < 100000000) (hil : i + 2 ≤ s.length) (ha : ∀ (i : Nat) H, call 142 [.s s, .i .i64 i] H = .val (.i .u8 (atR s i)) H) (hwd : ∀ (i : Nat) H, call 143 [.i .u8 (atR s i)] H = .val (.b (worR (atR s i))) H) (hx : ∀ H, call 144 [.s s, .i .i64 i, .s [48, 120]] H = .val (.b true) H) (hb : ∀ H, call 144 [.s s, .i .i64 i, .s [48, 98]] H = .val (.b false) H)
    (hdg : ∀ H, call 156 [.s s, .i .i64 ((i : Int) + 2), .i .i64 16] H = .val (.tup [.i .i64 ((i + 2 + (digL 16 (s.drop (i + 2)) [] false).1 : Nat) : Int), .s (digL 16 (s.drop (i + 2)) [] false).2]) H) (hdec : ∃ r, DecR (digL 16 (s.drop (i + 2)) [] false).2 16 r ∧ ∀ H, call 157 [.s (digL 16 (s.drop (i + 2)) [] false).2, .i .i64 (16 : Nat)] H = .val r H) (hwi : IntKind.i64.wrap ((i : Int) + 2) = (i : Int) + 2)  : EBody Tryz.prog TT 146 [.s s, .i .i64 i] (fun r => ∃ v, r = .val v ∧ NumEnd s (digL 16 (s.drop (i + 2)) [] false).2 16 (i + 2 + (digL 16 (s.drop (i + 2)) [] false).1) (digL 16 (s.drop (i + 2)) [] false).2 3 v) := by
 refine en Tryz.f146 rfl rfl (by simp [Tryz.f146]) 136 rfl fun t hw hg => ?_
 have h0 := hg 0 _ rfl
 have h1 := hg 1 _ rfl
 clear hg
 try simp only [Nd.enc_eq] at *
 have hF := ai @h0 (ai @h1 (ai @hx (ai @hb (ai @hdg @hwi))))
 apply rS hC
 · iterate 3 refine oA ?_
   rfl
 apply rS hC
 · refine oA ?_
   rfl
 apply rS hC
 · iterate 2 refine oA ?_
   rfl
 apply sQ
 apply rS hC
 · iterate 3 refine oA ?_
   rfl
 refine cT (by simp [hF] <;> rfl) ?_
 apply rS hC
 · refine oA ?_
   rfl
 apply rN hC
 · iterate 3 refine oA ?_
   rfl
 apply sN
 apply sQ
 apply rS hC
 · iterate 3 refine oA ?_
   rfl
 refine cF (by simp [hF] <;> rfl) ?_
 apply Tri.skip
 apply sN
 apply rS hC
 · iterate 9 refine oA ?_
   rfl
 apply rS hC
 · iterate 2 refine oA ?_
   rfl
 apply rS hC
 · refine oA ?_
   rfl
 apply sQ
 apply rS hC
 · iterate 2 refine oA ?_
   rfl
 refine cF (by simp [hF] <;> rfl) ?_
 apply Tri.skip
 apply sN
 refine tail32 hC (by simp [hw]) (s := s) (d := (digL 16 (s.drop (i + 2)) [] false).2) (e := i + 2 + (digL 16 (s.drop (i + 2)) [] false).1) (base := 16) (text := (digL 16 (s.drop (i + 2)) [] false).2) (k := 3) (by simp [hF]) (by simp [hF]) (by simp [hF]) (by simp [hF]) (by simp [hF]) (by simp [hF]) (by simp [hF]) (ha _) (hwd _) (.inl rfl) hdec ?cr32_15
 case cr32_15 =>
  intro t5 k2 t2 e2 c2 q4 q5 q6 hne0
  have hne : ∃ v, (Res.val (.tup [tokV k2 t2, .i .i64 e2, .i .i64 c2]) = .val v) ∧ NumEnd s (digL 16 (s.drop (i + 2)) [] false).2 16 (i + 2 + (digL 16 (s.drop (i + 2)) [] false).1) (digL 16 (s.drop (i + 2)) [] false).2 3 v := ⟨_, rfl, hne0⟩
  refine endsE (by simp [Tryz.f146, q4, q5, q6] <;> rfl) (by rfl) ?_
  exact hne
theorem body_1146b {call : CallF} (hC : call.Sound Tryz.prog TT) (s : List UInt8) (i : Nat) (hsl : s.length < 100000000) (hil : i + 2 ≤ s.length) (ha : ∀ (i : Nat) H, call 142 [.s s, .i .i64 i] H = .val (.i .u8 (atR s i)) H) (hwd : ∀ (i : Nat) H, call 143 [.i .u8 (atR s i)] H = .val (.b (worR (atR s i))) H) (hx : ∀ H, call 144 [.s s, .i .i64 i, .s [48, 120]] H = .val (.b false) H) (hb : ∀ H, call 144 [.s s, .i .i64 i, .s [48, 98]] H = .val (.b true) H)
    (hdg : ∀ H, call 156 [.s s, .i .i64 ((i : Int) + 2), .i .i64 2] H = .val (.tup [.i .i64 ((i + 2 + (digL 2 (s.drop (i + 2)) [] false).1 : Nat) : Int), .s (digL 2 (s.drop (i + 2)) [] false).2]) H) (hdec : ∃ r, DecR (digL 2 (s.drop (i + 2)) [] false).2 2 r ∧ ∀ H, call 157 [.s (digL 2 (s.drop (i + 2)) [] false).2, .i .i64 (2 : Nat)] H = .val r H) (hwi : IntKind.i64.wrap ((i : Int) + 2) = (i : Int) + 2)  : EBody Tryz.prog TT 146 [.s s, .i .i64 i] (fun r => ∃ v, r = .val v ∧ NumEnd s (digL 2 (s.drop (i + 2)) [] false).2 2 (i + 2 + (digL 2 (s.drop (i + 2)) [] false).1) (digL 2 (s.drop (i + 2)) [] false).2 3 v) := by
 refine en Tryz.f146 rfl rfl (by simp [Tryz.f146]) 136 rfl fun t hw hg => ?_
 have h0 := hg 0 _ rfl
 have h1 := hg 1 _ rfl
 clear hg
 try simp only [Nd.enc_eq] at *
 have hF := ai @h0 (ai @h1 (ai @hx (ai @hb (ai @hdg @hwi))))
 apply rS hC
 · iterate 3 refine oA ?_
   rfl
 apply rS hC
 · refine oA ?_
   rfl
 apply rS hC
 · iterate 2 refine oA ?_
   rfl
 apply sQ
 apply rS hC
 · iterate 3 refine oA ?_
   rfl
 refine cF (by simp [hF] <;> rfl) ?_
 apply Tri.skip
 apply sN
 apply sQ
 apply rS hC
 · iterate 3 refine oA ?_
   rfl
 refine cT (by simp [hF] <;> rfl) ?_
 apply rS hC
 · refine oA ?_
   rfl
 apply rN hC
 · iterate 3 refine oA ?_
   rfl
 apply sN
 apply rS hC
 · iterate 9 refine oA ?_
   rfl
 apply rS hC
 · iterate 2 refine oA ?_
   rfl
 apply rS hC
 · refine oA ?_
   rfl
 apply sQ
 apply rS hC
 · iterate 2 refine oA ?_
   rfl
 refine cF (by simp [hF] <;> rfl) ?_
 apply Tri.skip
 apply sN
 refine tail32 hC (by simp [hw]) (s := s) (d := (digL 2 (s.drop (i + 2)) [] false).2) (e := i + 2 + (digL 2 (s.drop (i + 2)) [] false).1) (base := 2) (text := (digL 2 (s.drop (i + 2)) [] false).2) (k := 3) (by simp [hF]) (by simp [hF]) (by simp [hF]) (by simp [hF]) (by simp [hF]) (by simp [hF]) (by simp [hF]) (ha _) (hwd _) (.inl rfl) hdec ?cr32_15
 case cr32_15 =>
  intro t5 k2 t2 e2 c2 q4 q5 q6 hne0
  have hne : ∃ v, (Res.val (.tup [tokV k2 t2, .i .i64 e2, .i .i64 c2]) = .val v) ∧ NumEnd s (digL 2 (s.drop (i + 2)) [] false).2 2 (i + 2 + (digL 2 (s.drop (i + 2)) [] false).1) (digL 2 (s.drop (i + 2)) [] false).2 3 v := ⟨_, rfl, hne0⟩
  refine endsE (by simp [Tryz.f146, q4, q5, q6] <;> rfl) (by rfl) ?_
  exact hne
theorem body_1146d {call : CallF} (hC : call.Sound Tryz.prog TT) (s : List UInt8) (i : Nat) (hsl : s.length < 100000000) (hil : i ≤ s.length) (ha : ∀ (i : Nat) H, call 142 [.s s, .i .i64 i] H = .val (.i .u8 (atR s i)) H) (hwd : ∀ (i : Nat) H, call 143 [.i .u8 (atR s i)] H = .val (.b (worR (atR s i))) H) (hx : ∀ H, call 144 [.s s, .i .i64 i, .s [48, 120]] H = .val (.b false) H) (hb : ∀ H, call 144 [.s s, .i .i64 i, .s [48, 98]] H = .val (.b false) H)
    (hdg : ∀ H, call 156 [.s s, .i .i64 (i : Int), .i .i64 10] H = .val (.tup [.i .i64 ((i + (digL 10 (s.drop (i)) [] false).1 : Nat) : Int), .s (digL 10 (s.drop (i)) [] false).2]) H) (hdec : ∃ r, DecR (digL 10 (s.drop (i)) [] false).2 10 r ∧ ∀ H, call 157 [.s (digL 10 (s.drop (i)) [] false).2, .i .i64 (10 : Nat)] H = .val r H) (hdg10 : ∀ i : Nat, i ≤ s.length → ∀ H, call 156 [.s s, .i .i64 i, .i .i64 10] H = .val (.tup [.i .i64 ((i + (digL 10 (s.drop i) [] false).1 : Nat) : Int), .s (digL 10 (s.drop i) [] false).2]) H) (hd1 : ∀ (i : Nat) H, call 145 [.i .u8 (atR s i), .i .i64 10] H = .val (.i .i64 (digR (atR s i) 10)) H) (hwi : IntKind.i64.wrap ((i : Int) + 2) = (i : Int) + 2)  : EBody Tryz.prog TT 146 [.s s, .i .i64 i] (fun r => ∃ v, r = .val v ∧ ((restR s (i + (digL 10 (s.drop (i)) [] false).1) (digL 10 (s.drop (i)) [] false).2 = none ∧ v = errV) ∨ ∃ e' t' k', restR s (i + (digL 10 (s.drop (i)) [] false).1) (digL 10 (s.drop (i)) [] false).2 = some (e', t', k') ∧ NumEnd s (digL 10 (s.drop (i)) [] false).2 10 e' t' k' v)) := by
 refine en Tryz.f146 rfl rfl (by simp [Tryz.f146]) 136 rfl fun t hw hg => ?_
 have h0 := hg 0 _ rfl
 have h1 := hg 1 _ rfl
 clear hg
 try simp only [Nd.enc_eq] at *
 have hF := ai @h0 (ai @h1 (ai @hx (ai @hb (ai @hdg @hwi))))
 apply rS hC
 · iterate 3 refine oA ?_
   rfl
 apply rS hC
 · refine oA ?_
   rfl
 apply rS hC
 · iterate 2 refine oA ?_
   rfl
 apply sQ
 apply rS hC
 · iterate 3 refine oA ?_
   rfl
 refine cF (by simp [hF] <;> rfl) ?_
 apply Tri.skip
 apply sN
 apply sQ
 apply rS hC
 · iterate 3 refine oA ?_
   rfl
 refine cF (by simp [hF] <;> rfl) ?_
 apply Tri.skip
 apply sN
 apply rS hC
 · iterate 9 refine oA ?_
   rfl
 apply rS hC
 · iterate 2 refine oA ?_
   rfl
 apply rS hC
 · refine oA ?_
   rfl
 apply sQ
 apply rS hC
 · iterate 2 refine oA ?_
   rfl
 refine cT (by simp [hF] <;> rfl) ?_
 refine frac13 hC (by simp [hw]) (s := s) (d := (digL 10 (s.drop (i)) [] false).2) (e := i + (digL 10 (s.drop (i)) [] false).1) (base := 10) (by simp [hF]) (by simp [hF]) (by simp [hF]) (by simp [hF]) (by simp [hF]) (by simp [hF]) (by simp [hF]) (by omega) (by have := digL_out 10 (s.drop i) [] false; simp at this ⊢; omega) hsl ha hdg10 (by have := digL_le 10 (s.drop i) [] false; simp at this; omega) (hd1 _) ?cn13_13 ?cr13_13
 case cn13_13 =>
  intro t4 hw q0 q4 q7 q10 e' text' k' hexp q9 q11 q12
  apply sN
  refine tail32 hC hw q0 q4 q7 q9 q10 q11 q12 (ha _) (hwd _) (restR_k hexp) hdec ?cr32_14
  case cr32_14 =>
   intro t5 k2 t2 e2 c2 q4 q5 q6 hne0
   have hne : ∃ v, (Res.val (.tup [tokV k2 t2, .i .i64 e2, .i .i64 c2]) = .val v) ∧ ((restR s (i + (digL 10 (s.drop (i)) [] false).1) (digL 10 (s.drop (i)) [] false).2 = none ∧ v = errV) ∨ ∃ e' t' k', restR s (i + (digL 10 (s.drop (i)) [] false).1) (digL 10 (s.drop (i)) [] false).2 = some (e', t', k') ∧ NumEnd s (digL 10 (s.drop (i)) [] false).2 10 e' t' k' v) := ⟨_, rfl, .inr ⟨_, _, _, hexp, hne0⟩⟩
   refine endsE (by simp [Tryz.f146, q4, q5, q6] <;> rfl) (by rfl) ?_
   exact hne
 case cr13_13 =>
  intro hexp t4 q4 q5 q6
  have hne : ∃ v, (Res.val (.tup [tokV 0 [], .i .i64 0, .i .i64 33]) = .val v) ∧ ((restR s (i + (digL 10 (s.drop (i)) [] false).1) (digL 10 (s.drop (i)) [] false).2 = none ∧ v = errV) ∨ ∃ e' t' k', restR s (i + (digL 10 (s.drop (i)) [] false).1) (digL 10 (s.drop (i)) [] false).2 = some (e', t', k') ∧ NumEnd s (digL 10 (s.drop (i)) [] false).2 10 e' t' k' v) := ⟨_, rfl, .inl ⟨hexp, rfl⟩⟩
  apply sR
  refine endsE (by simp [Tryz.f146, q4, q5, q6] <;> rfl) (by rfl) ?_
  exact hne
theorem digL_digs (base : Int) : ∀ (L out : List UInt8) (pd : Bool), (∀ b ∈ out, 0 ≤ digR b.toNat base) → ∀ b ∈ (digL base L out pd).2, 0 ≤ digR b.toNat base
  | [], out, pd, h, b, hb => h b hb
  | c :: L, out, pd, h, b, hb => by
    simp only [digL] at hb
    split at hb
    · rename_i hc
      refine digL_digs base L (out ++ [c]) true (fun x hx => ?_) b hb
      rcases List.mem_append.1 hx with hx | hx
      · exact h x hx
      · obtain rfl : x = c := by simpa using hx
        exact hc
    · split at hb
      · exact digL_digs base L out false h b hb
      · exact h b hb
theorem begR_len {s : List UInt8} {i : Nat} {t : List UInt8} (h : begR s i t = true) : i + t.length ≤ s.length := by
  simp only [begR, Bool.and_eq_true, decide_eq_true_eq] at h
  exact h.1
theorem begR_two {s : List UInt8} {i : Nat} {a b : UInt8} (h : begR s i [48, a] = true) (h2 : begR s i [48, b] = true) : a = b := by
  simp only [begR, Bool.and_eq_true, beq_iff_eq, List.length_cons, List.length_nil] at h h2
  have := h.2.symm.trans h2.2
  simpa using this
theorem sp1146 : ∃ g, SpecOK Tryz.prog TT 146 g ∧ ∀ (s : List UInt8) (i : Nat), s.length < 100000000 → i ≤ s.length → ∃ v, NumR s i v ∧ ∀ H, g [.s s, .i .i64 i] H = .val v H := by
  obtain ⟨g1, k1, s1⟩ := sp1145
  obtain ⟨g2, k2, s2⟩ := sp1142
  obtain ⟨g3, k3, s3⟩ := sp1143
  obtain ⟨g4, k4, s4⟩ := sp1144
  obtain ⟨g5, k5, s5⟩ := sp1156
  obtain ⟨g6, k6, s6⟩ := sp1157
  obtain ⟨g, hg, hs⟩ := spec_pure TT_ok TT_plain 146 (fun vs => ∃ (s : List UInt8) (i : Nat), s.length < 100000000 ∧ i ≤ s.length ∧ vs = [.s s, .i .i64 i]) (fun vs r => ∃ (s : List UInt8) (i : Nat) (v : V), vs = [.s s, .i .i64 i] ∧ r = .val v ∧ nl v = true ∧ NumR s i v) (by
    rintro vs ⟨s, i, hl, hi, rfl⟩
    refine ⟨by simp [nlL, nl], by rintro r ⟨_, _, v, _, rfl, h, _⟩; exact h, ?_⟩
    have hC := ws (ws (ws (ws (ws (ws n0 k1) k2) k3) k4) k5) k6
    generalize hc : (((((CallF.none.with 145 g1).with 142 g2).with 143 g3).with 144 g4).with 156 g5).with 157 g6 = call at hC
    have c6 : ∀ vs H, call 157 (vs) H = g6 vs H := fun vs H => by rw [← hc, w_here]
    have c5 : ∀ vs H, call 156 (vs) H = g5 vs H := fun vs H => by rw [← hc, w_other _ _ _ _ rfl, w_here]
    have c4 : ∀ vs H, call 144 (vs) H = g4 vs H := fun vs H => by rw [← hc, w_other _ _ _ _ rfl, w_other _ _ _ _ rfl, w_here]
    have c3 : ∀ vs H, call 143 (vs) H = g3 vs H := fun vs H => by rw [← hc, w_other _ _ _ _ rfl, w_other _ _ _ _ rfl, w_other _ _ _ _ rfl, w_here]
    have c2 : ∀ vs H, call 142 (vs) H = g2 vs H := fun vs H => by rw [← hc, w_other _ _ _ _ rfl, w_other _ _ _ _ rfl, w_other _ _ _ _ rfl, w_other _ _ _ _ rfl, w_here]
    have c1 : ∀ vs H, call 145 (vs) H = g1 vs H := fun vs H => by rw [← hc, w_other _ _ _ _ rfl, w_other _ _ _ _ rfl, w_other _ _ _ _ rfl, w_other _ _ _ _ rfl, w_other _ _ _ _ rfl, w_here]
    have ha : ∀ (i : Nat) H, call 142 [.s s, .i .i64 i] H = .val (.i .u8 (atR s i)) H := fun i H => (c2 _ H).trans (s2 s i H)
    have hwd : ∀ (i : Nat) H, call 143 [.i .u8 (atR s i)] H = .val (.b (worR (atR s i))) H := fun i H => (c3 _ H).trans (s3 _ (atR_range s i).1 (atR_range s i).2 H)
    have hd1 : ∀ (i : Nat) H, call 145 [.i .u8 (atR s i), .i .i64 10] H = .val (.i .i64 (digR (atR s i) 10)) H := fun i H => (c1 _ H).trans (s1 _ 10 (atR_range s i).1 (atR_range s i).2 (by simp) H)
    have hb : ∀ (a : UInt8) H, call 144 [.s s, .i .i64 i, .s [48, a]] H = .val (.b (begR s i [48, a])) H := fun a H => (c4 _ H).trans (s4 s i [48, a] (by omega) (by simp) H)
    have hdg : ∀ (base : Int) (j : Nat), base = 2 ∨ base = 10 ∨ base = 16 → j ≤ s.length → ∀ H, call 156 [.s s, .i .i64 j, .i .i64 base] H = .val (.tup [.i .i64 ((j + (digL base (s.drop j) [] false).1 : Nat) : Int), .s (digL base (s.drop j) [] false).2]) H := fun base j h1 h2 H => (c5 _ H).trans (s5 s j base h1 (by omega) h2 H)
    have hdec : ∀ (base j : Nat), base = 2 ∨ base = 10 ∨ base = 16 → ∃ r, DecR (digL base (s.drop j) [] false).2 base r ∧ ∀ H, call 157 [.s (digL base (s.drop j) [] false).2, .i .i64 base] H = .val r H := fun base j h1 => by
      obtain ⟨r, hr, h⟩ := s6 (digL base (s.drop j) [] false).2 base h1 (by have := digL_out base (s.drop j) [] false; simp at this; omega) (digL_digs base (s.drop j) [] false (by simp))
      exact ⟨r, hr, fun H => (c6 _ H).trans (h H)⟩
    have hwi : IntKind.i64.wrap ((i : Int) + 2) = (i : Int) + 2 := wrap_i64 (by omega) (by omega)
    have fin : ∀ {S : V → Prop}, (∀ v, S v → NumR s i v ∧ nl v = true) → EBody Tryz.prog TT 146 [.s s, .i .i64 i] (fun r => ∃ v, r = .val v ∧ S v) → EBody Tryz.prog TT 146 [.s s, .i .i64 i] (fun r => ∃ (s' : List UInt8) (i' : Nat) (v : V), [V.s s, .i .i64 i] = [.s s', .i .i64 i'] ∧ r = .val v ∧ nl v = true ∧ NumR s' i' v) := fun h1 h2 => h2.mono (by
      rintro r ⟨v, rfl, hv⟩
      exact ⟨s, i, v, rfl, rfl, (h1 v hv).2, (h1 v hv).1⟩)
    have nle : ∀ {d text : List UInt8} {base e : Nat} {k : Int} {v : V}, NumEnd s d base e text k v → nl v = true := by
      rintro d text base e k v (⟨_, rfl⟩ | ⟨_, ⟨_, rfl⟩ | ⟨_, ⟨o, _, _, _, rfl⟩ | ⟨_, rfl⟩⟩⟩) <;> simp [errV, okV, tokV, nl, nlL]
    cases hx : begR s i [48, 120] with
    | true =>
      have hlen := begR_len hx
      simp only [List.length_cons, List.length_nil] at hlen
      have hbf : begR s i [48, 98] = false := by
        cases hbb : begR s i [48, 98] with
        | false => rfl
        | true => exact absurd (begR_two hx hbb) (by decide)
      refine fin (S := fun v => NumEnd s (digL 16 (s.drop (i + 2)) [] false).2 16 (i + 2 + (digL 16 (s.drop (i + 2)) [] false).1) (digL 16 (s.drop (i + 2)) [] false).2 3 v) (fun v hv => ⟨?_, nle hv⟩) (body_1146x hC s i hl (by omega) ha hwd (fun H => by rw [hb, hx]) (fun H => by rw [hb, hbf]) (fun H => ?_) (hdec 16 (i + 2) (by simp)) hwi)
      · unfold NumR
        rw [if_pos hx]
        exact hv
      · have := hdg 16 (i + 2) (by simp) (by omega) H
        simpa using this
    | false =>
      cases hbb : begR s i [48, 98] with
      | true =>
        have hlen := begR_len hbb
        simp only [List.length_cons, List.length_nil] at hlen
        refine fin (S := fun v => NumEnd s (digL 2 (s.drop (i + 2)) [] false).2 2 (i + 2 + (digL 2 (s.drop (i + 2)) [] false).1) (digL 2 (s.drop (i + 2)) [] false).2 3 v) (fun v hv => ⟨?_, nle hv⟩) (body_1146b hC s i hl (by omega) ha hwd (fun H => by rw [hb, hx]) (fun H => by rw [hb, hbb]) (fun H => ?_) (hdec 2 (i + 2) (by simp)) hwi)
        · unfold NumR
          rw [if_neg (by rw [hx]; simp), if_pos hbb]
          exact hv
        · have := hdg 2 (i + 2) (by simp) (by omega) H
          simpa using this
      | false =>
        refine fin (S := fun v => (restR s (i + (digL 10 (s.drop i) [] false).1) (digL 10 (s.drop i) [] false).2 = none ∧ v = errV) ∨ ∃ e' t' k', restR s (i + (digL 10 (s.drop i) [] false).1) (digL 10 (s.drop i) [] false).2 = some (e', t', k') ∧ NumEnd s (digL 10 (s.drop i) [] false).2 10 e' t' k' v) (fun v hv => ⟨?_, ?_⟩) (body_1146d hC s i hl hi ha hwd (fun H => by rw [hb, hx]) (fun H => by rw [hb, hbb]) (fun H => hdg 10 i (by simp) hi H) (hdec 10 i (by simp)) (fun j hj H => hdg 10 j (by simp) hj H) hd1 hwi)
        · unfold NumR
          rw [if_neg (by rw [hx]; simp), if_neg (by rw [hbb]; simp)]
          exact hv
        · rcases hv with ⟨_, rfl⟩ | ⟨_, _, _, _, h⟩
          · simp [errV, tokV, nl, nlL]
          · exact nle h)
  refine ⟨g, hg, fun s i hl hi => ?_⟩
  obtain ⟨r, ⟨s1, i1, v, e, rfl, _, h1⟩, h⟩ := hs _ ⟨s, i, hl, hi, rfl⟩
  simp only [List.cons.injEq, V.s.injEq, V.i.injEq, true_and, and_true] at e
  obtain ⟨rfl, e2⟩ := e
  rw [show i1 = i from by omega] at h1
  exact ⟨v, h1, h⟩
def lnL : List UInt8 → Nat
  | [] => 0
  | b :: l => if (b == 10) = true then 0 else lnL l + 1
theorem lnL_le : ∀ l, lnL l ≤ l.length
  | [] => Nat.le_refl _
  | b :: l => by
    have := lnL_le l
    simp only [lnL, List.length_cons]
    split <;> omega
def cmF (s : List UInt8) : Nat → Nat → Nat → Bool → Bool × Nat × Bool
  | 0, i, _, l => (false, i, l)
  | n + 1, i, d, l => if d = 0 then (true, i, l) else if s.length ≤ i then (false, i, l)
    else if begR s i [47, 42] = true then cmF s n (i + 2) (d + 1) l
    else if begR s i [42, 47] = true then cmF s n (i + 2) (d - 1) l
    else cmF s n (i + 1) d (l || (atR s i == 10))
theorem cmF_le (s : List UInt8) : ∀ (n i d : Nat) (l : Bool), i ≤ s.length → i ≤ (cmF s n i d l).2.1 ∧ (cmF s n i d l).2.1 ≤ s.length
  | 0, i, d, l, h => ⟨Nat.le_refl _, h⟩
  | n + 1, i, d, l, h => by
    simp only [cmF]
    split
    · exact ⟨Nat.le_refl _, h⟩
    split
    · exact ⟨Nat.le_refl _, h⟩
    split
    · rename_i hb
      have := begR_len hb
      simp only [List.length_cons, List.length_nil] at this
      have := cmF_le s n (i + 2) (d + 1) l (by omega)
      omega
    split
    · rename_i hb
      have := begR_len hb
      simp only [List.length_cons, List.length_nil] at this
      have := cmF_le s n (i + 2) (d - 1) l (by omega)
      omega
    · have := cmF_le s n (i + 1) d (l || (atR s i == 10)) (by omega)
      omega
theorem atR_get {s : List UInt8} {i : Nat} {b : UInt8} (h : s[i]? = some b) : atR s i = b.toNat := by unfold atR; rw [h]
theorem loop1126_1 {call : CallF} (hC : call.Sound Tryz.prog TT) {Q : Out → Prop} : ∀ (L pre : List UInt8) (t : Tm) (H : Heap), (pre ++ L).length < 1000000000 → t.wid = 119 → t.get 0 = .s (pre ++ L) → t.get 1 = .i .i64 pre.length →
    (∀ (t' : Tm) (H' : Heap), t'.wid = 119 → t'.get 0 = .s (pre ++ L) → t'.get 1 = .i .i64 ((pre.length + lnL L : Nat) : Int) → (∀ j, j < 48 → j ≠ 1 → t'.get j = t.get j) → Q (.exit 3 t' H')) →
    LTri Tryz.prog TT (sub [true, true, false, false, false, true, false, false, true, true, true, true, true, false, true, false, false, false] (bodyOf Tryz.f126)) t H Q := by
 intro L
 induction L with
 | nil =>
   intro pre t H hlen hw h0 h1 hE
   refine LTri.round' ?_
   apply sQ
   apply rS hC
   · iterate 5 refine oA ?_
     iterate 4 refine oC ?_
     refine oA ?_
     rfl
   refine cF (by simp [h0, h1] <;> rfl) ?_
   refine Tri.exit ?_
   refine inSeq_exit ?_
   refine inLoop_exit ?_
   exact hE _ _ (by simp [hw]) (by simp [h0]) (by simp [h1, lnL]) (fun j hj h1 => by
    have : ¬ j = 48 ∧ ¬ j = 49 ∧ ¬ j = 50 ∧ ¬ j = 51 ∧ ¬ j = 52 ∧ ¬ j = 53 ∧ ¬ j = 54 ∧ ¬ j = 55 ∧ ¬ j = 56 ∧ ¬ j = 57 := by omega
    simp [this])
 | cons b L ih =>
   intro pre t H hlen hw h0 h1 hE
   have hlt := fin_len pre.length L.length
   have hat := str_at pre b L
   have hat2 := str_at2 pre b L
   cases hq2 : (b == 10) with
   | true =>
     have hq : ((b.toNat : Int) != 10) = false := by rw [bne, show (10 : Int) = ((10 : UInt8).toNat : Int) from rfl, ← u8_eq, hq2]; rfl
     have hF := ai @h0 (ai @h1 (ai @hlt (ai @hat (ai @hat2 @hq))))
     refine LTri.round' ?_
     apply sQ
     apply rS hC
     · iterate 5 refine oA ?_
       iterate 4 refine oB ?_
       refine oA ?_
       rfl
     refine cF (by simp [hF] <;> rfl) ?_
     refine Tri.exit ?_
     refine inSeq_exit ?_
     refine inLoop_exit ?_
     exact hE _ _ (by simp [hw]) (by simp [h0]) (by simp [h1, lnL, hq2]) (fun j hj h1 => by
      have : ¬ j = 48 ∧ ¬ j = 49 ∧ ¬ j = 50 ∧ ¬ j = 51 ∧ ¬ j = 52 ∧ ¬ j = 53 ∧ ¬ j = 54 ∧ ¬ j = 55 ∧ ¬ j = 56 ∧ ¬ j = 57 ∧ ¬ j = 58 ∧ ¬ j = 59 := by omega
      simp [this])
   | false =>
     have hq : ((b.toNat : Int) != 10) = true := by rw [bne, show (10 : Int) = ((10 : UInt8).toNat : Int) from rfl, ← u8_eq, hq2]; rfl
     have hF := ai @h0 (ai @h1 (ai @hlt (ai @hat (ai @hat2 @hq))))
     refine LTri.round' ?_
     apply sQ
     apply rS hC
     · iterate 5 refine oA ?_
       iterate 4 refine oB ?_
       refine oA ?_
       rfl
     refine Tri.condG (o := ?oy2) (b := ?by2) ?gy2 ?ry2 ?yy2 ?ny2
     case gy2 => simp [hF] <;> rfl
     case ry2 => rfl
     case yy2 =>
      intro hy2
      apply Tri.skip
      apply sN
      apply bK
      apply rN hC
      · iterate 3 refine oA ?_
        rfl
      apply bN
      refine inLoop_norm ?_
      refine ih (pre ++ [b]) _ _ (by simpa using hlen) (by simp [hw]) (by simp [h0]) (by simp; exact wrap_i64 (by omega) (by simp at hlen; omega)) (fun t' H' k1 k2 k3 k4 => hE t' H' k1 (by simpa using k2) (by rw [k3]; simp [lnL, hq2, Int.add_assoc, Int.add_comm, Int.add_left_comm]) (fun j hj h1 => (k4 j hj h1).trans ?_))
      have : ¬ j = 48 ∧ ¬ j = 49 ∧ ¬ j = 50 ∧ ¬ j = 51 ∧ ¬ j = 52 ∧ ¬ j = 53 ∧ ¬ j = 54 ∧ ¬ j = 55 ∧ ¬ j = 56 ∧ ¬ j = 57 ∧ ¬ j = 58 ∧ ¬ j = 59 := by omega
      simp [this, h1]
     case ny2 =>
      intro hn2
      exact absurd hn2 (by simp [hF])

theorem r1126_27 {call : CallF} (hC : call.Sound Tryz.prog TT) {t : Tm} {H : Heap} {Q : Out → Prop} (hw : t.wid = 119) {s : List UInt8} {i : Nat} {b : UInt8} {line : Bool} (h0 : t.get 0 = .s s) (h1 : t.get 1 = .i .i64 i) (h7 : t.get 7 = .b line) (hi : (i : Int) < s.length) (hi2 : i < s.length) (hat : s[i]? = some b) (hat2 : ∀ h, s[i]'h = b) (hQ : ∀ t' : Tm, t'.wid = 119 → t'.get 7 = .b (line || ((b.toNat : Int) == 10)) → (∀ j, j < 99 → j ≠ 7 → t'.get j = t.get j) → Q (.norm t' H)) : Tri Tryz.prog TT (sub [true, true, false, false, false, true, false, false, true, true, true, true, true, true, true, false, true, true, false, false, false, true, false, true, true, true, true, true, false] (bodyOf Tryz.f126)) t H Q := by
 have hF := ai @h0 (ai @h1 (ai @h7 (ai @hi (ai @hi2 (ai @hat @hat2)))))
 cases hB1 : (line : Bool)
 case false =>
  apply rN hC
  · iterate 2 refine oA ?_
    iterate 4 refine oB ?_
    iterate 2 refine oA ?_
    rfl
  refine hQ _ (by simp [hw]) (by simp [*]) (fun j hj hj2 => ?_)
  have : ¬ j = 99 ∧ ¬ j = 100 ∧ ¬ j = 101 ∧ ¬ j = 102 ∧ ¬ j = 103 ∧ ¬ j = 104 ∧ ¬ j = 105 := by omega
  simp [this, hj2]
 case true =>
  apply rN hC
  · iterate 2 refine oA ?_
    iterate 4 refine oC ?_
    iterate 2 refine oA ?_
    rfl
  refine hQ _ (by simp [hw]) (by simp [*]) (fun j hj hj2 => ?_)
  have : ¬ j = 99 ∧ ¬ j = 100 ∧ ¬ j = 101 ∧ ¬ j = 102 ∧ ¬ j = 103 ∧ ¬ j = 104 ∧ ¬ j = 105 := by omega
  simp [this, hj2]
theorem loop1126_2 {call : CallF} (hC : call.Sound Tryz.prog TT) (s : List UInt8) (f : Nat) (hsl : s.length < 100000000) (hbg : ∀ (i : Nat) (a b : UInt8), i < 100000000 → ∀ H, call 144 [.s s, .i .i64 i, .s [a, b]] H = .val (.b (begR s i [a, b])) H) {Q : Out → Prop} : ∀ (n i d : Nat) (l : Bool) (t : Tm) (H : Heap), s.length - i < n → i ≤ s.length → d + (s.length - i) < 1000000000 →
    t.wid = 119 → t.get 0 = .s s → t.get 1 = .i .i64 i → t.get 7 = .b l → t.get 9 = .i .i64 f → t.get 10 = .i .i64 d →
    (∀ (t' : Tm) (H' : Heap), t'.wid = 119 → ∀ (e : Nat) (l' : Bool), cmF s n i d l = (true, e, l') → t'.get 0 = .s s → t'.get 1 = .i .i64 e → t'.get 7 = .b l' → (∀ j, j < 48 → j ≠ 1 → j ≠ 7 → j ≠ 10 → t'.get j = t.get j) → Q (.exit 5 t' H')) →
    (∀ (t' : Tm) (H' : Heap) (e : Nat) (l' : Bool), cmF s n i d l = (false, e, l') → t'.get 4 = .i .i64 f → t'.get 5 = .b l' → t'.get 6 = .i .i64 f → Q (.ret t' H')) →
    LTri Tryz.prog TT (sub [true, true, false, false, false, true, false, false, true, true, true, true, true, true, true, false, true, true, false, false, false] (bodyOf Tryz.f126)) t H Q := by
 intro n
 induction n with
 | zero => intro i d l t H h; omega
 | succ n ih =>
   intro i d l t H hn hi hdd hw h0 h1 h7 h9 h10 hE hR
   by_cases hdz : d = 0
   · have hd0 : ¬ 0 < d := by omega
     have hF := ai @h0 (ai @h1 (ai @h7 (ai @h9 (ai @h10 @hd0))))
     refine LTri.round' ?_
     apply sQ
     apply rS hC
     · iterate 2 refine oA ?_
       rfl
     refine cF (by simp [hF] <;> rfl) ?_ (by simp [hF])
     refine Tri.exit ?_
     refine inSeq_exit ?_
     refine inLoop_exit ?_
     exact hE _ _ (by simp [hw]) i l (by simp [cmF, hdz]) (by simp [h0]) (by simp [h1]) (by simp [h7]) (fun j hj k1 k7 k10 => by
      have : ¬ j = 76 ∧ ¬ j = 77 ∧ ¬ j = 78 ∧ ¬ j = 79 ∧ ¬ j = 80 ∧ ¬ j = 81 ∧ ¬ j = 82 ∧ ¬ j = 83 ∧ ¬ j = 84 ∧ ¬ j = 85 ∧ ¬ j = 86 ∧ ¬ j = 87 ∧ ¬ j = 88 ∧ ¬ j = 89 ∧ ¬ j = 90 ∧ ¬ j = 91 ∧ ¬ j = 92 ∧ ¬ j = 93 ∧ ¬ j = 94 ∧ ¬ j = 95 ∧ ¬ j = 96 ∧ ¬ j = 97 ∧ ¬ j = 98 ∧ ¬ j = 99 ∧ ¬ j = 100 ∧ ¬ j = 101 ∧ ¬ j = 102 ∧ ¬ j = 103 ∧ ¬ j = 104 ∧ ¬ j = 105 ∧ ¬ j = 106 ∧ ¬ j = 107 := by omega
      simp [this])
   · have hd0 : 0 < d := by omega
     by_cases hge : s.length ≤ i
     · have hres : cmF s (n + 1) i d l = (false, i, l) := by simp only [cmF]; rw [if_neg hdz, if_pos hge]
       have hF := ai @h0 (ai @h1 (ai @h7 (ai @h9 (ai @h10 (ai @hd0 @hge)))))
       refine LTri.round' ?_
       apply sQ
       apply rS hC
       · iterate 2 refine oA ?_
         rfl
       refine cT (by simp [hF] <;> rfl) ?_ (by simp [hF])
       apply Tri.skip
       apply sN
       apply bK
       apply sQ
       apply rS hC
       · iterate 4 refine oA ?_
         rfl
       refine cT (by simp [hF] <;> rfl) ?_ (by simp [hF])
       apply rS hC
       · iterate 6 refine oA ?_
         rfl
       apply Tri.ret
       apply sR
       apply bR
       refine inLoop_ret ?_
       exact hR _ _ i l hres (by simp) (by simp) (by simp)
     · have hlt : i < s.length := by omega
       have hil := hlt
       have hwi2 : IntKind.i64.wrap ((i : Int) + 2) = (i : Int) + 2 := wrap_i64 (by omega) (by omega)
       have hwi1 : IntKind.i64.wrap ((i : Int) + 1) = (i : Int) + 1 := wrap_i64 (by omega) (by omega)
       have hwd1 : IntKind.i64.wrap ((d : Int) + 1) = (d : Int) + 1 := wrap_i64 (by omega) (by omega)
       have hwd2 : IntKind.i64.wrap ((d : Int) - 1) = (d : Int) - 1 := wrap_i64 (by omega) (by omega)
       have hb1 := hbg i 47 42 (by omega)
       have hb2 := hbg i 42 47 (by omega)
       cases hx1 : begR s i [47, 42] with
       | true =>
         rw [hx1] at hb1
         have hlen := begR_len hx1
         simp only [List.length_cons, List.length_nil] at hlen
         have hres : cmF s (n + 1) i d l = cmF s n (i + 2) (d + 1) l := by simp only [cmF]; rw [if_neg hdz, if_neg hge, if_pos hx1]
         have hF := ai @h0 (ai @h1 (ai @h7 (ai @h9 (ai @h10 (ai @hd0 (ai @hlt (ai @hb1 (ai @hwd1 @hwi2))))))))
         refine LTri.round' ?_
         apply sQ
         apply rS hC
         · iterate 2 refine oA ?_
           rfl
         refine cT (by simp [hF] <;> rfl) ?_ (by simp [hF])
         apply Tri.skip
         apply sN
         apply bK
         apply sQ
         apply rS hC
         · iterate 4 refine oA ?_
           rfl
         refine cF (by simp [hF] <;> rfl) ?_ (by simp [hF])
         apply Tri.skip
         apply sN
         apply rS hC
         · iterate 3 refine oA ?_
           rfl
         refine cT (by simp [hF] <;> rfl) ?_ (by simp [hF])
         apply rS hC
         · iterate 3 refine oA ?_
           rfl
         apply rN hC
         · iterate 3 refine oA ?_
           rfl
         apply bN
         refine inLoop_norm ?_
         refine ih (i + 2) (d + 1) (l) _ _ (by omega) (by omega) (by omega) (by simp [hw]) (by simp [h0]) (by simp) (by simp [h7]) (by simp [h9]) (by simp) (fun t' H' k1 e2 l2 k2 k3 k4 k5 k6 => hE t' H' k1 e2 l2 (by rw [hres]; exact k2) k3 k4 k5 (fun j hj n1 n7 n10 => (k6 j hj n1 n7 n10).trans ?_)) (fun t' H' e2 l2 k2 => hR t' H' e2 l2 (by rw [hres]; exact k2))
         have : ¬ j = 76 ∧ ¬ j = 77 ∧ ¬ j = 78 ∧ ¬ j = 79 ∧ ¬ j = 80 ∧ ¬ j = 81 ∧ ¬ j = 82 ∧ ¬ j = 83 ∧ ¬ j = 84 ∧ ¬ j = 85 ∧ ¬ j = 86 ∧ ¬ j = 87 ∧ ¬ j = 88 ∧ ¬ j = 89 ∧ ¬ j = 90 ∧ ¬ j = 91 ∧ ¬ j = 92 ∧ ¬ j = 93 ∧ ¬ j = 94 ∧ ¬ j = 95 ∧ ¬ j = 96 ∧ ¬ j = 97 ∧ ¬ j = 98 ∧ ¬ j = 99 ∧ ¬ j = 100 ∧ ¬ j = 101 ∧ ¬ j = 102 ∧ ¬ j = 103 ∧ ¬ j = 104 ∧ ¬ j = 105 ∧ ¬ j = 106 ∧ ¬ j = 107 := by omega
         simp [this, n1, n7, n10]
       | false =>
         rw [hx1] at hb1
         cases hx2 : begR s i [42, 47] with
         | true =>
           rw [hx2] at hb2
           have hlen := begR_len hx2
           simp only [List.length_cons, List.length_nil] at hlen
           have hres : cmF s (n + 1) i d l = cmF s n (i + 2) (d - 1) l := by simp only [cmF]; rw [if_neg hdz, if_neg hge, if_neg (by rw [hx1]; simp), if_pos hx2]
           have hF := ai @h0 (ai @h1 (ai @h7 (ai @h9 (ai @h10 (ai @hd0 (ai @hlt (ai @hb1 (ai @hb2 (ai @hwd2 @hwi2)))))))))
           refine LTri.round' ?_
           apply sQ
           apply rS hC
           · iterate 2 refine oA ?_
             rfl
           refine cT (by simp [hF] <;> rfl) ?_ (by simp [hF])
           apply Tri.skip
           apply sN
           apply bK
           apply sQ
           apply rS hC
           · iterate 4 refine oA ?_
             rfl
           refine cF (by simp [hF] <;> rfl) ?_ (by simp [hF])
           apply Tri.skip
           apply sN
           apply rS hC
           · iterate 3 refine oA ?_
             rfl
           refine cF (by simp [hF] <;> rfl) ?_ (by simp [hF])
           apply rS hC
           · iterate 3 refine oA ?_
             rfl
           refine cT (by simp [hF] <;> rfl) ?_ (by simp [hF])
           apply rS hC
           · iterate 3 refine oA ?_
             rfl
           apply rN hC
           · iterate 3 refine oA ?_
             rfl
           apply bN
           refine inLoop_norm ?_
           refine ih (i + 2) (d - 1) (l) _ _ (by omega) (by omega) (by omega) (by simp [hw]) (by simp [h0]) (by simp) (by simp [h7]) (by simp [h9]) (by simp; omega) (fun t' H' k1 e2 l2 k2 k3 k4 k5 k6 => hE t' H' k1 e2 l2 (by rw [hres]; exact k2) k3 k4 k5 (fun j hj n1 n7 n10 => (k6 j hj n1 n7 n10).trans ?_)) (fun t' H' e2 l2 k2 => hR t' H' e2 l2 (by rw [hres]; exact k2))
           have : ¬ j = 76 ∧ ¬ j = 77 ∧ ¬ j = 78 ∧ ¬ j = 79 ∧ ¬ j = 80 ∧ ¬ j = 81 ∧ ¬ j = 82 ∧ ¬ j = 83 ∧ ¬ j = 84 ∧ ¬ j = 85 ∧ ¬ j = 86 ∧ ¬ j = 87 ∧ ¬ j = 88 ∧ ¬ j = 89 ∧ ¬ j = 90 ∧ ¬ j = 91 ∧ ¬ j = 92 ∧ ¬ j = 93 ∧ ¬ j = 94 ∧ ¬ j = 95 ∧ ¬ j = 96 ∧ ¬ j = 97 ∧ ¬ j = 98 ∧ ¬ j = 99 ∧ ¬ j = 100 ∧ ¬ j = 101 ∧ ¬ j = 102 ∧ ¬ j = 103 ∧ ¬ j = 104 ∧ ¬ j = 105 ∧ ¬ j = 106 ∧ ¬ j = 107 := by omega
           simp [this, n1, n7, n10]
         | false =>
           rw [hx2] at hb2
           have hres : cmF s (n + 1) i d l = cmF s n (i + 1) d (l || (atR s i == 10)) := by simp only [cmF]; rw [if_neg hdz, if_neg hge, if_neg (by rw [hx1]; simp), if_neg (by rw [hx2]; simp)]
           obtain ⟨b, hat⟩ : ∃ b, s[i]? = some b := ⟨_, List.getElem?_eq_getElem hil⟩
           have hat2 : ∀ h, s[i]'h = b := fun h => Option.some.inj ((List.getElem?_eq_getElem h).symm.trans hat)
           have hF := ai @h0 (ai @h1 (ai @h7 (ai @h9 (ai @h10 (ai @hd0 (ai @hlt (ai @hb1 (ai @hb2 @hwi1))))))))
           refine LTri.round' ?_
           apply sQ
           apply rS hC
           · iterate 2 refine oA ?_
             rfl
           refine Tri.condG (o := ?oo2) (b := ?bo2) ?go2 ?ro2 ?yo2 ?no2
           case go2 => simp [hF] <;> rfl
           case ro2 => rfl
           case yo2 =>
            intro hy2
            apply Tri.skip
            apply sN
            apply bK
            apply sQ
            apply rS hC
            · iterate 4 refine oA ?_
              rfl
            refine cF (by simp [hF] <;> rfl) ?_ (by simp [hF])
            apply Tri.skip
            apply sN
            apply rS hC
            · iterate 3 refine oA ?_
              rfl
            refine cF (by simp [hF] <;> rfl) ?_ (by simp [hF])
            apply rS hC
            · iterate 3 refine oA ?_
              rfl
            refine cF (by simp [hF] <;> rfl) ?_ (by simp [hF])
            apply sQ
            refine r1126_27 hC (by simp [hw]) (s := s) (i := i) (b := b) (line := l) (by simp [hF]) (by simp [hF]) (by simp [hF]) (by omega) hil hat hat2 ?_
            clear hw
            intro t2 hw m7 hk
            have m0 : t2.get 0 = .s s := (hk 0 (by omega) (by omega)).trans (by simp [hF])
            have m1 : t2.get 1 = .i .i64 i := (hk 1 (by omega) (by omega)).trans (by simp [hF])
            have m9 : t2.get 9 = .i .i64 f := (hk 9 (by omega) (by omega)).trans (by simp [hF])
            have m10 : t2.get 10 = .i .i64 d := (hk 10 (by omega) (by omega)).trans (by simp [hF])
            apply sN
            apply rN hC
            · iterate 3 refine oA ?_
              rfl
            apply bN
            refine inLoop_norm ?_
            refine ih (i + 1) (d) (l || (atR s i == 10)) _ _ (by omega) (by omega) (by omega) (by simp [hw]) (by simp [m0]) (by simp) (by simp [m7, atR_get hat]) (by simp [m9]) (by simp [m10]) (fun t' H' k1 e2 l2 k2 k3 k4 k5 k6 => hE t' H' k1 e2 l2 (by rw [hres]; exact k2) k3 k4 k5 (fun j hj n1 n7 n10 => (k6 j hj n1 n7 n10).trans ?_)) (fun t' H' e2 l2 k2 => hR t' H' e2 l2 (by rw [hres]; exact k2))
            have : ¬ j = 76 ∧ ¬ j = 77 ∧ ¬ j = 78 ∧ ¬ j = 79 ∧ ¬ j = 80 ∧ ¬ j = 81 ∧ ¬ j = 82 ∧ ¬ j = 83 ∧ ¬ j = 84 ∧ ¬ j = 85 ∧ ¬ j = 86 ∧ ¬ j = 87 ∧ ¬ j = 88 ∧ ¬ j = 89 ∧ ¬ j = 90 ∧ ¬ j = 91 ∧ ¬ j = 92 ∧ ¬ j = 93 ∧ ¬ j = 94 ∧ ¬ j = 95 ∧ ¬ j = 96 ∧ ¬ j = 97 ∧ ¬ j = 98 ∧ ¬ j = 99 ∧ ¬ j = 100 ∧ ¬ j = 101 ∧ ¬ j = 102 ∧ ¬ j = 103 ∧ ¬ j = 104 ∧ ¬ j = 105 ∧ ¬ j = 106 ∧ ¬ j = 107 := by omega
            simp [this, n1, hk j (by omega) n7]
           case no2 =>
            intro hn2
            exact absurd hn2 (by simp [hF])

end Go.Ev
