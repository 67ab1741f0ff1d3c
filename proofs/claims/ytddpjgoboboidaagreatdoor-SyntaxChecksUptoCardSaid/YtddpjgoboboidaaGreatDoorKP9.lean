/- What the looks at nodes return. The rows of the kinds, each with what its looks say. What the look at one node returns. The look at one node is that of the reference. -/
import Derived.Test.YtddpjgoboboidaaGreatDoorKP5
namespace Go.Ev
open Go Go.Proofs
set_option linter.unusedSimpArgs false
set_option linter.unusedVariables false
set_option maxRecDepth 100000
theorem sp57p : ∃ g, SpecOK Tryz.prog TT 70 g ∧ ∀ s : List UInt8, True → ∀ H, g [.s s] H = .val (.b (!(isIdR s))) H := by
  obtain ⟨g1, hg1, hs1⟩ := sp26p
  exact spec_val TT_ok TT_plain 70 (fun x : List UInt8 => [.s x]) (fun s => True) (fun s => .b (!(isIdR s))) (fun x _ => by simp [nlL, nl]) (fun _ => rfl) (fun a b h => by
    simp only [List.cons.injEq, V.s.injEq, and_true] at h; rw [h]) fun s _ => body_57 (ws n0 hg1) s _ fun H => by rw [w_here]; exact hs1 s trivial H
theorem sp56p : ∃ g, SpecOK Tryz.prog TT 69 g ∧ ∀ l : List (List UInt8), l.length < 1100000 → ∀ H, g [.isl 1 (encS l), .fn 70 []] H = .val (.b (l.any fun s => !(isIdR s))) H := by
  obtain ⟨g1, hg1, hs1⟩ := sp57p
  obtain ⟨g4, hg4, hs4⟩ := spec_pure TT_ok TT_plain 92 (fun vs => ∃ l : List (List UInt8), l.length < 1100000 ∧ vs = [.isl 1 (encS l), .fn 70 []]) (fun vs r => ∃ (l : List (List UInt8)) (i : Int), vs = [.isl 1 (encS l), .fn 70 []] ∧ r = .val (.i .i64 i) ∧ decide (0 ≤ i) = (l.any fun s => !(isIdR s))) (by
    rintro vs ⟨l, hl, rfl⟩
    refine ⟨by simp [nlL, nl, encS_nl], by rintro r ⟨_, i, _, rfl, _⟩; rfl, ?_⟩
    exact (body_74 (ws n0 hg1) l 70 [] (fun s => !(isIdR s)) rfl (fun x _ H => by rw [w_here]; exact hs1 x trivial H) hl).mono fun r ⟨i, h, h1, _⟩ => ⟨l, i, rfl, h, h1⟩)
  refine spec_val TT_ok TT_plain 69 (fun l : List (List UInt8) => [.isl 1 (encS l), .fn 70 []]) (fun l => l.length < 1100000) (fun l => .b (l.any fun s => !(isIdR s))) (fun x _ => by simp [nlL, nl, encS_nl]) (fun _ => rfl) (fun a b h => by
    simp only [List.cons.injEq, V.isl.injEq, true_and, and_true] at h
    rw [encS_inj _ _ h]) fun l hl => ?_
  obtain ⟨r, ⟨l', i, e, rfl, hi⟩, h⟩ := hs4 _ ⟨l, hl, rfl⟩
  simp only [List.cons.injEq, V.isl.injEq, true_and, and_true] at e
  rw [encS_inj _ _ e]
  exact body_56 (ws n0 hg4) (encS l') i _ hi 70 [] fun H => by rw [w_here, ← encS_inj _ _ e]; exact h H
theorem any_not (l : List (List UInt8)) : (!(l.any fun s => !(isIdR s))) = l.all isIdR := by
  induction l with
  | nil => rfl
  | cons x l ih => simp only [List.any_cons, List.all_cons, ← ih]; cases isIdR x <;> simp
theorem sp54p : ∃ g, SpecOK Tryz.prog TT 67 g ∧ ∀ (s : List UInt8) (c : UInt8) (k : Int), s.length < NT → ∀ H, g [.s s, .ipt 1 [.agg [.s [c]]] 0 0, .ipt 1 [.agg [.i .i64 k]] 0 0] H = .val (.b (pathN c k s)) H := by
  obtain ⟨g5, hg5, hs5⟩ := sp55
  obtain ⟨g6, hg6, hs6⟩ := sp56p
  obtain ⟨g, hg, hs⟩ := spec_val TT_ok TT_plain 67 (fun p : List UInt8 × UInt8 × Int => [.s p.1, .ipt 1 [.agg [.s [p.2.1]]] 0 0, .ipt 1 [.agg [.i .i64 p.2.2]] 0 0]) (fun p => p.1.length < NT) (fun p => .b (pathN p.2.1 p.2.2 p.1)) (fun x _ => by simp [nlL, nl]) (fun _ => rfl) (fun a b h => by
    simp only [List.cons.injEq, V.s.injEq, V.ipt.injEq, V.agg.injEq, V.i.injEq, true_and, and_true] at h
    rw [h.1, h.2.1, h.2.2]) (fun p hp => by
    obtain ⟨s, c, k⟩ := p
    have hN : NT = 1090000 := rfl
    have hpl := pieces_length s c
    simp only at hp ⊢
    apply EBody.of2
    unfold pathN
    rw [← any_not]
    exact body_54p (ws (ws n0 hg5) hg6) s c k (pieces s c) _ (fun H => by rw [w_other _ _ _ _ rfl, w_here]; exact hs5 (s, c) hp H) (fun H => by rw [w_here]; exact hs6 _ (by omega) H))
  exact ⟨g, hg, fun s c k h => hs (s, c, k) h⟩
theorem sp49p : ∃ g, SpecOK Tryz.prog TT 62 g ∧ ∀ p : List (List UInt8) × List UInt8, p.1.length < 1100000 → ∀ H, g [.isl 1 (encS p.1), .s p.2] H = .val (.b (p.1.any fun x => p.2 == x)) H := by
  obtain ⟨g4, hg4, hs4⟩ := spec_pure TT_ok TT_plain 87 (fun vs => ∃ p : List (List UInt8) × List UInt8, p.1.length < 1100000 ∧ vs = [.isl 1 (encS p.1), .s p.2]) (fun vs r => ∃ (l : List (List UInt8)) (s : List UInt8) (i : Int), vs = [.isl 1 (encS l), .s s] ∧ r = .val (.i .i64 i) ∧ decide (0 ≤ i) = (l.any fun x => s == x)) (by
    rintro vs ⟨⟨l, s⟩, hl, rfl⟩
    refine ⟨by simp [nlL, nl, encS_nl], by rintro r ⟨_, _, i, _, rfl, _⟩; rfl, ?_⟩
    exact (body_69 n0 l s hl).mono fun r ⟨i, h, h1, _⟩ => ⟨l, s, i, rfl, h, h1⟩)
  refine spec_val TT_ok TT_plain 62 (fun p : List (List UInt8) × List UInt8 => [.isl 1 (encS p.1), .s p.2]) (fun p => p.1.length < 1100000) (fun p => .b (p.1.any fun x => p.2 == x)) (fun x _ => by simp [nlL, nl, encS_nl]) (fun _ => rfl) (fun a b h => by
    simp only [List.cons.injEq, V.isl.injEq, V.s.injEq, true_and, and_true] at h
    rw [encS_inj _ _ h.1, h.2]) fun p hp => ?_
  obtain ⟨r, ⟨l', s', i, e, rfl, hi⟩, h⟩ := hs4 _ ⟨p, hp, rfl⟩
  simp only [List.cons.injEq, V.isl.injEq, V.s.injEq, true_and, and_true] at e
  have e1 := encS_inj _ _ e.1
  rw [e1, e.2] at h ⊢
  exact body_49 (ws n0 hg4) (encS l') i _ hi s' fun H => by rw [w_here]; exact h H
def inW (l : List (List UInt8)) (s : List UInt8) : Bool := l.any fun x => s == x
theorem sp48p : ∃ g, SpecOK Tryz.prog TT 61 g ∧ ∀ p : Nd × List (List UInt8), p.2.length < 1100000 → ∀ H, g [p.1.enc, .ipt 1 [.agg [.isl 1 (encS p.2)]] 0 0] H = .val (.b ((p.1.kind == 4) && inW p.2 p.1.text)) H := by
  obtain ⟨g, hg, hs⟩ := sp49p
  refine spec_val TT_ok TT_plain 61 (fun p : Nd × List (List UInt8) => [p.1.enc, .ipt 1 [.agg [.isl 1 (encS p.2)]] 0 0]) (fun p => p.2.length < 1100000) (fun p => .b ((p.1.kind == 4) && inW p.2 p.1.text)) (fun x _ => by simp [nlL, nl, encS_nl, Nd.enc_nl]) (fun _ => rfl) (fun a b h => by
    simp only [List.cons.injEq, V.ipt.injEq, V.agg.injEq, V.isl.injEq, true_and, and_true] at h
    rw [Nd.enc_inj _ _ h.1, encS_inj _ _ h.2]) fun p hp => ?_
  exact body_48 (ws n0 hg) p.1 (encS p.2) _ fun H => by rw [w_here]; exact hs (p.2, p.1.text) hp H
theorem sp63p : ∃ g, SpecOK Tryz.prog TT 76 g ∧ ∀ p : List UInt8 × List (List UInt8), p.2.length < 1100000 → ∀ H, g [.s p.1, .ipt 1 [.agg [.isl 1 (encS p.2)]] 0 0] H = .val (.b (inW p.2 p.1)) H := by
  obtain ⟨g, hg, hs⟩ := sp49p
  refine spec_val TT_ok TT_plain 76 (fun p : List UInt8 × List (List UInt8) => [.s p.1, .ipt 1 [.agg [.isl 1 (encS p.2)]] 0 0]) (fun p => p.2.length < 1100000) (fun p => .b (inW p.2 p.1)) (fun x _ => by simp [nlL, nl, encS_nl]) (fun _ => rfl) (fun a b h => by
    simp only [List.cons.injEq, V.s.injEq, V.ipt.injEq, V.agg.injEq, V.isl.injEq, true_and, and_true] at h
    rw [h.1, encS_inj _ _ h.2]) fun p hp => ?_
  exact body_63 (ws n0 hg) p.1 (encS p.2) _ fun H => by rw [w_here]; exact hs (p.2, p.1) hp H
theorem spB (F : FuncId) (val : Nd → Bool) (h : ∀ x, Body Tryz.prog TT F [x.enc] (.val (.b (val x)))) : ∃ g, SpecOK Tryz.prog TT F g ∧ ∀ x : Nd, ∀ H, g [x.enc] H = .val (.b (val x)) H := by
  obtain ⟨g, k, s⟩ := spec_val TT_ok TT_plain F (fun x : Nd => [x.enc]) (fun _ => True) (fun x => .b (val x)) (fun x _ => by simp [nlL, Nd.enc_nl]) (fun _ => rfl) (fun a b h => by
    simp only [List.cons.injEq, and_true] at h; rw [Nd.enc_inj _ _ h]) fun x _ => h x
  exact ⟨g, k, fun x => s x trivial⟩
theorem sp23p : ∃ g, SpecOK Tryz.prog TT 18 g ∧ ∀ x : Nd, ∀ H, g [x.enc] H = .val (.b (isTypR x)) H := spB 18 isTypR fun x => body_23 n0 x
theorem sp24p : ∃ g, SpecOK Tryz.prog TT 20 g ∧ ∀ x : Nd, ∀ H, g [x.enc] H = .val (.b (isExpR x)) H := spB 20 isExpR fun x => body_24 n0 x
theorem sp29p : ∃ g, SpecOK Tryz.prog TT 44 g ∧ ∀ x : Nd, ∀ H, g [x.enc] H = .val (.b ((x.kind == 2) || (x.kind == 3))) H := spB 44 (fun x => (x.kind == 2) || (x.kind == 3)) fun x => body_29 n0 x
theorem sp32p : ∃ g, SpecOK Tryz.prog TT 22 g ∧ ∀ x : Nd, ∀ H, g [x.enc] H = .val (.b (isMemR x)) H := spB 22 isMemR fun x => body_32 n0 x
theorem sp37p : ∃ g, SpecOK Tryz.prog TT 51 g ∧ ∀ x : Nd, ∀ H, g [x.enc] H = .val (.b (isExpR x && (x.kind != 25))) H := by
  obtain ⟨g, hg, hs⟩ := sp24p
  exact spB 51 (fun x => isExpR x && (x.kind != 25)) fun x => body_37 (ws n0 hg) x _ fun H => by rw [w_here]; exact hs x H
theorem sp39p : ∃ g, SpecOK Tryz.prog TT 53 g ∧ ∀ x : Nd, ∀ H, g [x.enc] H = .val (.b (isExpR x || (x.kind == 32))) H := by
  obtain ⟨g, hg, hs⟩ := sp24p
  exact spB 53 (fun x => isExpR x || (x.kind == 32)) fun x => body_39 (ws n0 hg) x _ fun H => by rw [w_here]; exact hs x H
theorem spKind (F : FuncId) (val : Nd → Int → Bool) (h : ∀ x k, Body Tryz.prog TT F [x.enc, .ipt 1 [.agg [.i .i64 k]] 0 0] (.val (.b (val x k)))) : ∃ g, SpecOK Tryz.prog TT F g ∧ ∀ (x : Nd) (k : Int), ∀ H, g [x.enc, .ipt 1 [.agg [.i .i64 k]] 0 0] H = .val (.b (val x k)) H := by
  obtain ⟨g, hg, hs⟩ := spec_val TT_ok TT_plain F (fun p : Nd × Int => [p.1.enc, .ipt 1 [.agg [.i .i64 p.2]] 0 0]) (fun _ => True) (fun p => .b (val p.1 p.2)) (fun x _ => by simp [nlL, nl, Nd.enc_nl]) (fun _ => rfl) (fun a b h => by
    simp only [List.cons.injEq, V.ipt.injEq, V.agg.injEq, V.i.injEq, true_and, and_true] at h
    rw [Nd.enc_inj _ _ h.1, h.2]) (fun p _ => h p.1 p.2)
  exact ⟨g, hg, fun x k => hs (x, k) trivial⟩
theorem sp58p : ∃ g, SpecOK Tryz.prog TT 71 g ∧ ∀ (x : Nd) (k : Int), ∀ H, g [x.enc, .ipt 1 [.agg [.i .i64 k]] 0 0] H = .val (.b (x.kind == k)) H := spKind 71 (fun x k => x.kind == k) fun x k => body_58 n0 x k
theorem sp96p : ∃ g, SpecOK Tryz.prog TT 121 g ∧ ∀ (x : Nd) (k : Int), ∀ H, g [x.enc, .ipt 1 [.agg [.i .i64 k]] 0 0] H = .val (.b (x.kind == k)) H := spKind 121 (fun x k => x.kind == k) fun x k => body_96 n0 x k
theorem sp97p : ∃ g, SpecOK Tryz.prog TT 122 g ∧ ∀ (x : Nd) (k : Int), ∀ H, g [x.enc, .ipt 1 [.agg [.i .i64 k]] 0 0] H = .val (.b (x.kind != k)) H := spKind 122 (fun x k => x.kind != k) fun x k => body_97 n0 x k
theorem sp53p : ∃ g, SpecOK Tryz.prog TT 66 g ∧ (∀ (x : Nd), ∀ H, g [x.enc, .ipt 1 [.agg [.fn 18 []]] 0 0] H = .val (.b ((x.kind == 5) || isTypR x)) H) ∧ ∀ (x : Nd), ∀ H, g [x.enc, .ipt 1 [.agg [.fn 20 []]] 0 0] H = .val (.b ((x.kind == 5) || isExpR x)) H := by
  obtain ⟨g3, hg3, hs3⟩ := sp23p
  obtain ⟨g4, hg4, hs4⟩ := sp24p
  have hC := ws (ws n0 hg3) hg4
  obtain ⟨g, hg, hs⟩ := spec_val TT_ok TT_plain 66 (fun p : Nd × Bool => [p.1.enc, .ipt 1 [.agg [if p.2 = true then .fn 18 [] else .fn 20 []]] 0 0]) (fun _ => True) (fun p => .b ((p.1.kind == 5) || (if p.2 = true then isTypR p.1 else isExpR p.1))) (fun x _ => by obtain ⟨a, q⟩ := x; cases q <;> simp [nlL, nl, Nd.enc_nl]) (fun _ => rfl) (fun a b h => by
    simp only [List.cons.injEq, V.ipt.injEq, V.agg.injEq, true_and, and_true] at h
    have e2 : a.2 = b.2 := by
      have := h.2
      cases ha : a.2 <;> cases hb : b.2 <;> rw [ha, hb] at this <;> first | rfl | (simp at this)
    rw [Nd.enc_inj _ _ h.1, e2]) (fun p _ => by
    obtain ⟨x, q⟩ := p
    cases q with
    | true => exact body_53 hC x 18 rfl [] _ fun H => by rw [w_other _ _ _ _ rfl, w_here]; exact hs3 x H
    | false => exact body_53 hC x 20 rfl [] _ fun H => by rw [w_here]; exact hs4 x H)
  exact ⟨g, hg, fun x => hs (x, true) trivial, fun x => hs (x, false) trivial⟩
theorem all_any (l : List Nd) : (l.all fun y => asgR y) = !(l.any fun y => !(asgR y)) := by
  induction l with
  | nil => rfl
  | cons x l ih => simp only [List.all_cons, List.any_cons, ih]; cases asgR x <;> simp
theorem sp38p : ∃ g, SpecOK Tryz.prog TT 52 g ∧ ∀ x : Nd, x.num < NT → ∀ H, g [x.enc] H = .val (.b (asgR x)) H :=
  spNrec n0 52 (fun x => .b (asgR x)) (fun x => x.num < NT) (fun x y h hy => num_kid h hy) (fun _ h => h) (fun _ => rfl) fun x call hx hC _ hrec => by
    obtain ⟨g64, hg64, hs64⟩ := spec_val TT_ok TT_plain 77 (fun y : Nd => [y.enc]) (fun y => y ∈ x.kids) (fun y => .b (!(asgR y))) (fun y _ => by simp [nlL, Nd.enc_nl]) (fun _ => rfl) (fun a b h => by
      simp only [List.cons.injEq, and_true] at h; rw [Nd.enc_inj _ _ h]) (fun y hy => body_64 hC y _ fun H => hrec y hy H)
    obtain ⟨g4, hg4, hb⟩ := sp_contp (ws n0 hg64) 77 [] rfl rfl x.kids (kids_len hx) (fun y => !(asgR y)) (fun y hy H => by rw [w_here]; exact hs64 y hy H)
    have := body_38p (ws n0 hg4) x _ fun H => by rw [w_here]; exact hb H
    have e : asgR x = ((x.kind == 23 || x.kind == 26 || x.kind == 28 || x.kind == 31) || (x.kind == 34 && !(x.kids.any fun y => !(asgR y)))) := by
      rw [asgR_eq]
      have e2 : (x.kids.all fun y => asgR y) = !(x.kids.any fun y => !(asgR y)) := all_any _
      rw [e2]
      by_cases h : x.kind = 34
      · rw [if_pos (by simp [h])]; simp [h]
      · rw [if_neg (by simp [h])]; simp [h]
    rw [e]
    exact this
inductive TPp : FuncId → List V → (List UInt8 → Bool) → Prop
  | empty : TPp 43 [] (fun s => s == [])
  | ident : TPp 41 [] isIdR
  | valid : TPp 47 [] Lib.validD
  | integer : TPp 48 [] integerN
  | float : TPp 49 [] floatN
  | path (c : UInt8) (k : Int) : TPp 67 [.ipt 1 [.agg [.s [c]]] 0 0, .ipt 1 [.agg [.i .i64 k]] 0 0] (pathN c k)
  | among (l : List (List UInt8)) (h : l.length < 100) : TPp 76 [.ipt 1 [.agg [.isl 1 (encS l)]] 0 0] (inW l)
inductive NPp : V → (Nd → Bool) → Prop
  | p23 : NPp (.fn 18 []) isTypR
  | p24 : NPp (.fn 20 []) isExpR
  | p29 : NPp (.fn 44 []) (fun x => (x.kind == 2) || (x.kind == 3))
  | p32 : NPp (.fn 22 []) isMemR
  | p37 : NPp (.fn 51 []) (fun x => isExpR x && (x.kind != 25))
  | p38 : NPp (.fn 52 []) asgR
  | p39 : NPp (.fn 53 []) (fun x => isExpR x || (x.kind == 32))
  | kind (k : Int) : NPp (.fn 71 [.ipt 1 [.agg [.i .i64 k]] 0 0]) (fun x => x.kind == k)
  | word (l : List (List UInt8)) (h : l.length < 100) : NPp (.fn 61 [.ipt 1 [.agg [.isl 1 (encS l)]] 0 0]) (fun x => (x.kind == 4) && inW l x.text)
  | maybe23 : NPp (.fn 66 [.ipt 1 [.agg [.fn 18 []]] 0 0]) (fun x => (x.kind == 5) || isTypR x)
  | maybe24 : NPp (.fn 66 [.ipt 1 [.agg [.fn 20 []]] 0 0]) (fun x => (x.kind == 5) || isExpR x)
structure PredsP (call : CallF) : Prop where
  sound : call.Sound Tryz.prog TT
  text : ∀ tf tc p, TPp tf tc p → TT.ext tf = none ∧ ∀ s : List UInt8, s.length < NT → ∀ H, call tf (.s s :: tc) H = .val (.b (p s)) H
  node : ∀ v p, NPp v p → ∃ f c, v = .fn f c ∧ TT.ext f = none ∧ ∀ x : Nd, x.num < NT → ∀ H, call f (x.enc :: c) H = .val (.b (p x)) H
theorem predsP : ∃ call, PredsP call := by
  obtain ⟨g23, k23, s23⟩ := sp23p
  obtain ⟨g24, k24, s24⟩ := sp24p
  obtain ⟨g29, k29, s29⟩ := sp29p
  obtain ⟨g32, k32, s32⟩ := sp32p
  obtain ⟨g37, k37, s37⟩ := sp37p
  obtain ⟨g38, k38, s38⟩ := sp38p
  obtain ⟨g39, k39, s39⟩ := sp39p
  obtain ⟨g58, k58, s58⟩ := sp58p
  obtain ⟨g48, k48, s48⟩ := sp48p
  obtain ⟨g53, k53, s53a, s53b⟩ := sp53p
  obtain ⟨g28, k28, s28⟩ := sp28p
  obtain ⟨g26, k26, s26⟩ := sp26p
  obtain ⟨g33, k33, s33⟩ := sp33v
  obtain ⟨g34, k34, s34⟩ := sp34p
  obtain ⟨g35, k35, s35⟩ := sp35p
  obtain ⟨g54, k54, s54⟩ := sp54p
  obtain ⟨g63, k63, s63⟩ := sp63p
  have hN : NT = 1090000 := rfl
  refine ⟨((((((((((((((((CallF.none.with 18 g23).with 20 g24).with 44 g29).with 22 g32).with 51 g37).with 52 g38).with 53 g39).with 71 g58).with 61 g48).with 66 g53).with 43 g28).with 41 g26).with 47 g33).with 48 g34).with 49 g35).with 67 g54).with 76 g63, ?_, ?_, ?_⟩
  · exact ws (ws (ws (ws (ws (ws (ws (ws (ws (ws (ws (ws (ws (ws (ws (ws (ws n0 k23) k24) k29) k32) k37) k38) k39) k58) k48) k53) k28) k26) k33) k34) k35) k54) k63
  · intro tf tc p h
    cases h with
    | empty => exact ⟨rfl, fun s hs => s28 s trivial⟩
    | ident => exact ⟨rfl, fun s hs => s26 s trivial⟩
    | valid => exact ⟨rfl, fun s hs => s33 s (by omega)⟩
    | integer => exact ⟨rfl, fun s hs => s34 s hs⟩
    | float => exact ⟨rfl, fun s hs => s35 s hs⟩
    | path c k => exact ⟨rfl, fun s hs => s54 s c k hs⟩
    | among l h => exact ⟨rfl, fun s hs => s63 (s, l) (Nat.lt_trans h (by decide))⟩
  · intro v p h
    cases h with
    | p23 => exact ⟨_, _, rfl, rfl, fun x _ => s23 x⟩
    | p24 => exact ⟨_, _, rfl, rfl, fun x _ => s24 x⟩
    | p29 => exact ⟨_, _, rfl, rfl, fun x _ => s29 x⟩
    | p32 => exact ⟨_, _, rfl, rfl, fun x _ => s32 x⟩
    | p37 => exact ⟨_, _, rfl, rfl, fun x _ => s37 x⟩
    | p38 => exact ⟨_, _, rfl, rfl, fun x h => s38 x h⟩
    | p39 => exact ⟨_, _, rfl, rfl, fun x _ => s39 x⟩
    | kind k => exact ⟨_, _, rfl, rfl, fun x _ => s58 x k⟩
    | word l h => exact ⟨_, _, rfl, rfl, fun x _ => s48 (x, l) (Nat.lt_trans h (by decide))⟩
    | maybe23 => exact ⟨_, _, rfl, rfl, fun x _ => s53a x⟩
    | maybe24 => exact ⟨_, _, rfl, rfl, fun x _ => s53b x⟩
def ordP (l : List Nd) (k : Int) : Bool := decide (idxF (fun x => x.kind == k) l 0 < 0) || !((l.drop (idxF (fun x => x.kind == k) l 0).toNat).any fun x => x.kind != k)
theorem sp78p : ∃ g, SpecOK Tryz.prog TT 96 g ∧ ∀ (l : List Nd) (k : Int), l.length < 1100000 → ∀ H, g [.isl 3 (Nd.encL l), .i .i64 k] H = .val (.b (ordP l k)) H := by
  obtain ⟨g6, k6, s6⟩ := sp96p
  obtain ⟨g7, k7, s7⟩ := sp97p
  obtain ⟨g, hg, hs⟩ := spec_val TT_ok TT_plain 96 (fun p : List Nd × Int => [.isl 3 (Nd.encL p.1), .i .i64 p.2]) (fun p => p.1.length < 1100000) (fun p => .b (ordP p.1 p.2)) (fun x _ => by simp [nlL, nl, Nd.encL_nl]) (fun _ => rfl) (fun a b h => by
    simp only [List.cons.injEq, V.isl.injEq, V.i.injEq, true_and, and_true] at h
    rw [Nd.encL_inj _ _ h.1, h.2]) (fun p hp => by
    obtain ⟨l, k⟩ := p
    simp only at hp ⊢
    apply EBody.of2
    have hnl : nlL [V.isl 3 (Nd.encL l), V.fn 121 [.ipt 1 [.agg [.i .i64 k]] 0 0]] = true := by simp [nlL, nl, Nd.encL_nl]
    obtain ⟨h6, o6, z6⟩ := spec_pure TT_ok TT_plain 79 (fun vs => vs = [.isl 3 (Nd.encL l), .fn 121 [.ipt 1 [.agg [.i .i64 k]] 0 0]]) (fun _ r => ∃ i : Int, r = .val (.i .i64 i) ∧ i = idxF (fun x => x.kind == k) l 0 ∧ -1 ≤ i ∧ i < l.length) (by
      rintro vs rfl
      refine ⟨hnl, by rintro r ⟨i, rfl, _⟩; rfl, ?_⟩
      exact body_66i (ws n0 k6) l 121 [.ipt 1 [.agg [.i .i64 k]] 0 0] (fun x => x.kind == k) rfl (fun y _ H => by rw [w_here]; exact s6 y k H) hp)
    obtain ⟨r, ⟨i, rfl, hidx, i1, i2⟩, hi⟩ := z6 _ rfl
    unfold ordP
    rw [← hidx]
    by_cases hneg : i = -1
    · subst hneg
      exact body_78pa (ws n0 o6) l k fun H => by rw [w_here]; exact hi H
    · obtain ⟨n, rfl⟩ : ∃ n : Nat, i = n := ⟨i.toNat, by omega⟩
      obtain ⟨h4, o4, hq⟩ := sp_contp (ws n0 k7) 122 [.ipt 1 [.agg [.i .i64 k]] 0 0] rfl (by simp [nlL, nl]) (l.drop n) (by simp; omega) (fun x => x.kind != k) (fun y _ H => by rw [w_here]; exact s7 y k H)
      rw [decide_eq_false (by omega), Bool.false_or]
      exact body_78pb (ws (ws n0 o6) o4) l k n _ (by omega) (by omega) (fun H => by rw [w_other _ _ _ _ rfl, w_here]; exact hi H) fun H => by rw [w_here]; exact hq H)
  exact ⟨g, hg, fun l k h => hs (l, k) h⟩
def moreP (x : Nd) : Bool := if x.kind = 1 then ordP x.kids 3 else if x.kind = 31 then ordP (x.kids.drop 2) 32
  else if x.kind = 3 then (match x.kids with
    | a :: _ :: _ :: d :: r => !(a.text == [116, 121, 112, 101]) || (d.kind != 5 && ((r.length : Int) + 1 + 1 + 1 + 1 == 4))
    | _ => false)
  else true
theorem sp65p : ∃ g, SpecOK Tryz.prog TT 78 g ∧ ∀ x : Nd, (x.num < NT ∧ (x.kind = 31 → 2 ≤ x.kids.length) ∧ (x.kind = 3 → 4 ≤ x.kids.length)) → ∀ H, g [CKV, x.enc] H = .val (.b (moreP x)) H := by
  obtain ⟨g8, k8, s8⟩ := sp78p
  refine spec_val TT_ok TT_plain 78 (fun x : Nd => [CKV, x.enc]) (fun x => x.num < NT ∧ (x.kind = 31 → 2 ≤ x.kids.length) ∧ (x.kind = 3 → 4 ≤ x.kids.length)) (fun x => .b (moreP x)) (fun x _ => by simp [nlL, nl, Nd.enc_nl, shCells_nl]) (fun _ => rfl) (fun a b h => by
    simp only [List.cons.injEq, true_and, and_true] at h
    rw [Nd.enc_inj _ _ h]) fun x hx => EBody.of2 ?_
  obtain ⟨hn, h31, h3⟩ := hx
  have hl := kids_len hn
  have hC := ws n0 k8
  unfold moreP
  by_cases e1 : x.kind = 1
  · rw [if_pos e1]
    exact body_65pm hC x e1 _ fun H => by rw [w_here]; exact s8 _ _ hl H
  rw [if_neg e1]
  by_cases e31 : x.kind = 31
  · rw [if_pos e31]
    exact body_65pc hC x e31 _ (by have := h31 e31; omega) fun H => by rw [w_here]; exact s8 _ _ (by simp; omega) H
  rw [if_neg e31]
  by_cases e3 : x.kind = 3
  · rw [if_pos e3]
    have h4 := h3 e3
    match hk : x.kids, h4 with
    | a :: b :: c :: d :: r, _ => exact body_65pe hC x a b c d r e3 hk (by omega) (by omega)
    | [], h4 | [_], h4 | [_, _], h4 | [_, _, _], h4 => simp at h4
  rw [if_neg e3]
  exact body_65po hC x e1 e31 e3
def isK (k : Int) (x : Nd) : Bool := x.kind == k
def isW (l : List (List UInt8)) (x : Nd) : Bool := (x.kind == 4) && inW l x.text
def orN (p : Nd → Bool) (x : Nd) : Bool := (x.kind == 5) || p x
inductive NPL : List V → List (Nd → Bool) → Prop
  | nil : NPL [] []
  | cons {v : V} {l : List V} {p : Nd → Bool} {ps : List (Nd → Bool)} (h : NPp v p) (hl : NPL l ps) : NPL (v :: l) (p :: ps)
def rowT : Nat → (List UInt8 → Bool) × List (Nd → Bool) × Option (Nd → Bool) × Nat
  | 1 => ((fun s => s == []), [], (some (fun x => (x.kind == 2) || (x.kind == 3))), 0)
  | 2 => ((pathN 47 0), [(orN isExpR)], none, 0)
  | 3 => (isIdR, [(isW [[99, 108, 97, 115, 115], [97, 99, 116, 111, 114], [112, 114, 105, 109, 105, 116, 105, 118, 101], [116, 114, 97, 105, 116], [105, 110, 116, 101, 114, 102, 97, 99, 101], [116, 121, 112, 101]]), (isW [[], [105, 115, 111], [116, 114, 110], [114, 101, 102], [118, 97, 108], [98, 111, 120], [116, 97, 103]]), (isK 6), (orN isTypR)], (some isMemR), 0)
  | 4 => (Lib.validD, [], none, 0)
  | 5 => ((fun s => s == []), [], none, 0)
  | 6 => ((fun s => s == []), [], (some (isK 7)), 0)
  | 7 => (isIdR, [(orN isTypR)], none, 0)
  | 8 => (isIdR, [(isW [[118, 97, 114], [108, 101, 116]]), isTypR, (orN isExpR)], none, 0)
  | 9 => (isIdR, [(isW [[110, 101, 119], [102, 117, 110], [98, 101]]), (isW [[], [105, 115, 111], [116, 114, 110], [114, 101, 102], [118, 97, 108], [98, 111, 120], [116, 97, 103]]), (isK 6), (isK 10), (orN isTypR), (isW [[], [63]]), (orN isExpR)], none, 0)
  | 10 => ((fun s => s == []), [], (some (isK 11)), 0)
  | 11 => (isIdR, [isTypR, (orN isExpR)], none, 0)
  | 12 => ((pathN 46 2), [(isW [[], [105, 115, 111], [116, 114, 110], [114, 101, 102], [118, 97, 108], [98, 111, 120], [116, 97, 103], [35, 114, 101, 97, 100], [35, 115, 101, 110, 100], [35, 115, 104, 97, 114, 101], [35, 97, 108, 105, 97, 115], [35, 97, 110, 121]]), (isW [[], [94], [33]])], (some isTypR), 0)
  | 13 => ((fun s => s == []), [], (some isTypR), 2)
  | 14 => ((fun s => s == []), [], (some isTypR), 2)
  | 15 => ((fun s => s == []), [], (some isTypR), 2)
  | 16 => ((fun s => s == []), [isTypR, isTypR], none, 0)
  | 17 => ((fun s => s == []), [], none, 0)
  | 18 => ((fun s => s == []), [(isW [[], [105, 115, 111], [116, 114, 110], [114, 101, 102], [118, 97, 108], [98, 111, 120], [116, 97, 103]]), (isW [[], [94], [33]]), (isW [[], [63]]), (orN isTypR)], (some isTypR), 0)
  | 19 => (integerN, [], none, 0)
  | 20 => (floatN, [], none, 0)
  | 21 => (Lib.validD, [], none, 0)
  | 22 => ((inW [[116, 114, 117, 101], [102, 97, 108, 115, 101]]), [], none, 0)
  | 23 => (isIdR, [], none, 0)
  | 24 => ((fun s => s == []), [], none, 0)
  | 25 => ((fun s => s == []), [], (some (fun x => isExpR x && (x.kind != 25))), 2)
  | 26 => (isIdR, [(isW [[118, 97, 114], [108, 101, 116]]), isTypR], none, 0)
  | 27 => ((fun s => s == []), [asgR, isExpR], none, 0)
  | 28 => (isIdR, [isExpR], none, 0)
  | 29 => (isIdR, [isExpR], none, 0)
  | 30 => (isIdR, [isExpR], none, 0)
  | 31 => ((fun s => s == []), [isExpR, (isW [[], [63]])], (some (fun x => isExpR x || (x.kind == 32))), 0)
  | 32 => (isIdR, [isExpR], none, 0)
  | 33 => ((fun s => s == []), [isExpR], (some isTypR), 1)
  | 34 => ((fun s => s == []), [], (some isExpR), 2)
  | 35 => ((fun s => s == []), [isTypR], (some isExpR), 0)
  | 36 => ((inW [[110, 111, 116], [45]]), [isExpR], none, 0)
  | 37 => ((inW [[97, 110, 100], [111, 114], [120, 111, 114], [105, 115], [105, 115, 110, 116], [43], [45], [42], [47], [37], [43, 63], [45, 63], [42, 63], [47, 63], [37, 63], [60, 60], [62, 62], [61, 61], [33, 61], [60], [60, 61], [62], [62, 61]]), [isExpR, isExpR], none, 0)
  | 38 => ((fun s => s == []), [isExpR, isTypR], none, 0)
  | 39 => ((fun s => s == []), [isExpR], none, 0)
  | 40 => ((fun s => s == []), [(isW [[], [105, 115, 111], [116, 114, 110], [114, 101, 102], [118, 97, 108], [98, 111, 120], [116, 97, 103]]), isExpR], none, 0)
  | 41 => ((fun s => s == []), [isExpR, isExpR, (orN isExpR)], none, 0)
  | 42 => ((fun s => s == []), [isExpR, isExpR, (orN isExpR)], none, 0)
  | 43 => ((fun s => s == []), [isExpR, isExpR, (orN isExpR)], none, 0)
  | 44 => ((fun s => s == []), [isExpR, isExpR], none, 0)
  | 45 => (isIdR, [isTypR, isExpR, isExpR, (orN isExpR)], none, 0)
  | 46 => (isIdR, [isTypR, isExpR, isExpR], none, 0)
  | 47 => ((fun s => s == []), [isExpR, (orN isExpR)], (some (isK 48)), 1)
  | 48 => ((fun s => s == []), [isExpR, (orN isExpR), isExpR], none, 0)
  | 49 => ((fun s => s == []), [isExpR, (orN isExpR), (orN isExpR)], none, 0)
  | 50 => ((fun s => s == []), [], none, 0)
  | 51 => ((fun s => s == []), [(orN isExpR)], none, 0)
  | 52 => ((fun s => s == []), [], none, 0)
  | 53 => ((fun s => s == []), [], none, 0)
  | 54 => ((fun s => s == []), [(isW [[], [105, 115, 111], [116, 114, 110], [114, 101, 102], [118, 97, 108], [98, 111, 120], [116, 97, 103]]), (orN isTypR)], (some isMemR), 0)
  | 55 => ((fun s => s == []), [(isW [[], [105, 115, 111], [116, 114, 110], [114, 101, 102], [118, 97, 108], [98, 111, 120], [116, 97, 103]]), (isK 10), (orN isTypR), (isW [[], [63]]), isExpR], (some (isK 56)), 0)
  | 56 => (isIdR, [isTypR, isExpR], none, 0)
  | _ => (fun _ => false, [], none, 0)
def RowP (k : Nat) : Prop := ∃ (tf : FuncId) (tc kl : List V) (rs : V), shCells[k * 5 + 1]? = some (.fn tf tc) ∧ shCells[k * 5 + 2]? = some (.isl 1 kl) ∧ shCells[k * 5 + 3]? = some rs ∧ shCells[k * 5 + 4]? = some (.i .i64 (rowT k).2.2.2) ∧
  TPp tf tc (rowT k).1 ∧ NPL kl (rowT k).2.1 ∧ ((rs = .nilf ∧ (rowT k).2.2.1 = none) ∨ ∃ p, (rowT k).2.2.1 = some p ∧ NPp rs p) ∧ (tf == 78) = false ∧ (rowT k).2.2.2 ≤ 2 ∧ (rowT k).2.1.length ≤ 7 ∧ (k = 31 → 2 ≤ (rowT k).2.1.length) ∧ (k = 3 → 4 ≤ (rowT k).2.1.length)
theorem rowp1 : RowP 1 := ⟨43, [], [], .fn 44 [], by kernel_rfl, by kernel_rfl, by kernel_rfl, by kernel_rfl, .empty, .nil, .inr ⟨_, rfl, .p29⟩, by decide, by decide, by decide, by decide, by decide⟩
theorem rowp2 : RowP 2 := ⟨67, [.ipt 1 [.agg [.s [47]]] 0 0, .ipt 1 [.agg [.i .i64 0]] 0 0], [.fn 66 [.ipt 1 [.agg [.fn 20 []]] 0 0]], .nilf, by kernel_rfl, by kernel_rfl, by kernel_rfl, by kernel_rfl, .path 47 0, (.cons .maybe24 .nil), .inl ⟨rfl, rfl⟩, by decide, by decide, by decide, by decide, by decide⟩
theorem rowp3 : RowP 3 := ⟨41, [], [.fn 61 [.ipt 1 [.agg [.isl 1 [.s [99, 108, 97, 115, 115], .s [97, 99, 116, 111, 114], .s [112, 114, 105, 109, 105, 116, 105, 118, 101], .s [116, 114, 97, 105, 116], .s [105, 110, 116, 101, 114, 102, 97, 99, 101], .s [116, 121, 112, 101]]]] 0 0], .fn 61 [.ipt 1 [.agg [.isl 1 [.s [], .s [105, 115, 111], .s [116, 114, 110], .s [114, 101, 102], .s [118, 97, 108], .s [98, 111, 120], .s [116, 97, 103]]]] 0 0], .fn 71 [.ipt 1 [.agg [.i .i64 6]] 0 0], .fn 66 [.ipt 1 [.agg [.fn 18 []]] 0 0]], .fn 22 [], by kernel_rfl, by kernel_rfl, by kernel_rfl, by kernel_rfl, .ident, (.cons (.word [[99, 108, 97, 115, 115], [97, 99, 116, 111, 114], [112, 114, 105, 109, 105, 116, 105, 118, 101], [116, 114, 97, 105, 116], [105, 110, 116, 101, 114, 102, 97, 99, 101], [116, 121, 112, 101]] (by decide)) (.cons (.word [[], [105, 115, 111], [116, 114, 110], [114, 101, 102], [118, 97, 108], [98, 111, 120], [116, 97, 103]] (by decide)) (.cons (.kind 6) (.cons .maybe23 .nil)))), .inr ⟨_, rfl, .p32⟩, by decide, by decide, by decide, by decide, by decide⟩
theorem rowp4 : RowP 4 := ⟨47, [], [], .nilf, by kernel_rfl, by kernel_rfl, by kernel_rfl, by kernel_rfl, .valid, .nil, .inl ⟨rfl, rfl⟩, by decide, by decide, by decide, by decide, by decide⟩
theorem rowp5 : RowP 5 := ⟨43, [], [], .nilf, by kernel_rfl, by kernel_rfl, by kernel_rfl, by kernel_rfl, .empty, .nil, .inl ⟨rfl, rfl⟩, by decide, by decide, by decide, by decide, by decide⟩
theorem rowp6 : RowP 6 := ⟨43, [], [], .fn 71 [.ipt 1 [.agg [.i .i64 7]] 0 0], by kernel_rfl, by kernel_rfl, by kernel_rfl, by kernel_rfl, .empty, .nil, .inr ⟨_, rfl, (.kind 7)⟩, by decide, by decide, by decide, by decide, by decide⟩
theorem rowp7 : RowP 7 := ⟨41, [], [.fn 66 [.ipt 1 [.agg [.fn 18 []]] 0 0]], .nilf, by kernel_rfl, by kernel_rfl, by kernel_rfl, by kernel_rfl, .ident, (.cons .maybe23 .nil), .inl ⟨rfl, rfl⟩, by decide, by decide, by decide, by decide, by decide⟩
theorem rowp8 : RowP 8 := ⟨41, [], [.fn 61 [.ipt 1 [.agg [.isl 1 [.s [118, 97, 114], .s [108, 101, 116]]]] 0 0], .fn 18 [], .fn 66 [.ipt 1 [.agg [.fn 20 []]] 0 0]], .nilf, by kernel_rfl, by kernel_rfl, by kernel_rfl, by kernel_rfl, .ident, (.cons (.word [[118, 97, 114], [108, 101, 116]] (by decide)) (.cons .p23 (.cons .maybe24 .nil))), .inl ⟨rfl, rfl⟩, by decide, by decide, by decide, by decide, by decide⟩
theorem rowp9 : RowP 9 := ⟨41, [], [.fn 61 [.ipt 1 [.agg [.isl 1 [.s [110, 101, 119], .s [102, 117, 110], .s [98, 101]]]] 0 0], .fn 61 [.ipt 1 [.agg [.isl 1 [.s [], .s [105, 115, 111], .s [116, 114, 110], .s [114, 101, 102], .s [118, 97, 108], .s [98, 111, 120], .s [116, 97, 103]]]] 0 0], .fn 71 [.ipt 1 [.agg [.i .i64 6]] 0 0], .fn 71 [.ipt 1 [.agg [.i .i64 10]] 0 0], .fn 66 [.ipt 1 [.agg [.fn 18 []]] 0 0], .fn 61 [.ipt 1 [.agg [.isl 1 [.s [], .s [63]]]] 0 0], .fn 66 [.ipt 1 [.agg [.fn 20 []]] 0 0]], .nilf, by kernel_rfl, by kernel_rfl, by kernel_rfl, by kernel_rfl, .ident, (.cons (.word [[110, 101, 119], [102, 117, 110], [98, 101]] (by decide)) (.cons (.word [[], [105, 115, 111], [116, 114, 110], [114, 101, 102], [118, 97, 108], [98, 111, 120], [116, 97, 103]] (by decide)) (.cons (.kind 6) (.cons (.kind 10) (.cons .maybe23 (.cons (.word [[], [63]] (by decide)) (.cons .maybe24 .nil))))))), .inl ⟨rfl, rfl⟩, by decide, by decide, by decide, by decide, by decide⟩
theorem rowp10 : RowP 10 := ⟨43, [], [], .fn 71 [.ipt 1 [.agg [.i .i64 11]] 0 0], by kernel_rfl, by kernel_rfl, by kernel_rfl, by kernel_rfl, .empty, .nil, .inr ⟨_, rfl, (.kind 11)⟩, by decide, by decide, by decide, by decide, by decide⟩
theorem rowp11 : RowP 11 := ⟨41, [], [.fn 18 [], .fn 66 [.ipt 1 [.agg [.fn 20 []]] 0 0]], .nilf, by kernel_rfl, by kernel_rfl, by kernel_rfl, by kernel_rfl, .ident, (.cons .p23 (.cons .maybe24 .nil)), .inl ⟨rfl, rfl⟩, by decide, by decide, by decide, by decide, by decide⟩
theorem rowp12 : RowP 12 := ⟨67, [.ipt 1 [.agg [.s [46]]] 0 0, .ipt 1 [.agg [.i .i64 2]] 0 0], [.fn 61 [.ipt 1 [.agg [.isl 1 [.s [], .s [105, 115, 111], .s [116, 114, 110], .s [114, 101, 102], .s [118, 97, 108], .s [98, 111, 120], .s [116, 97, 103], .s [35, 114, 101, 97, 100], .s [35, 115, 101, 110, 100], .s [35, 115, 104, 97, 114, 101], .s [35, 97, 108, 105, 97, 115], .s [35, 97, 110, 121]]]] 0 0], .fn 61 [.ipt 1 [.agg [.isl 1 [.s [], .s [94], .s [33]]]] 0 0]], .fn 18 [], by kernel_rfl, by kernel_rfl, by kernel_rfl, by kernel_rfl, .path 46 2, (.cons (.word [[], [105, 115, 111], [116, 114, 110], [114, 101, 102], [118, 97, 108], [98, 111, 120], [116, 97, 103], [35, 114, 101, 97, 100], [35, 115, 101, 110, 100], [35, 115, 104, 97, 114, 101], [35, 97, 108, 105, 97, 115], [35, 97, 110, 121]] (by decide)) (.cons (.word [[], [94], [33]] (by decide)) .nil)), .inr ⟨_, rfl, .p23⟩, by decide, by decide, by decide, by decide, by decide⟩
theorem rowp13 : RowP 13 := ⟨43, [], [], .fn 18 [], by kernel_rfl, by kernel_rfl, by kernel_rfl, by kernel_rfl, .empty, .nil, .inr ⟨_, rfl, .p23⟩, by decide, by decide, by decide, by decide, by decide⟩
theorem rowp14 : RowP 14 := ⟨43, [], [], .fn 18 [], by kernel_rfl, by kernel_rfl, by kernel_rfl, by kernel_rfl, .empty, .nil, .inr ⟨_, rfl, .p23⟩, by decide, by decide, by decide, by decide, by decide⟩
theorem rowp15 : RowP 15 := ⟨43, [], [], .fn 18 [], by kernel_rfl, by kernel_rfl, by kernel_rfl, by kernel_rfl, .empty, .nil, .inr ⟨_, rfl, .p23⟩, by decide, by decide, by decide, by decide, by decide⟩
theorem rowp16 : RowP 16 := ⟨43, [], [.fn 18 [], .fn 18 []], .nilf, by kernel_rfl, by kernel_rfl, by kernel_rfl, by kernel_rfl, .empty, (.cons .p23 (.cons .p23 .nil)), .inl ⟨rfl, rfl⟩, by decide, by decide, by decide, by decide, by decide⟩
theorem rowp17 : RowP 17 := ⟨43, [], [], .nilf, by kernel_rfl, by kernel_rfl, by kernel_rfl, by kernel_rfl, .empty, .nil, .inl ⟨rfl, rfl⟩, by decide, by decide, by decide, by decide, by decide⟩
theorem rowp18 : RowP 18 := ⟨43, [], [.fn 61 [.ipt 1 [.agg [.isl 1 [.s [], .s [105, 115, 111], .s [116, 114, 110], .s [114, 101, 102], .s [118, 97, 108], .s [98, 111, 120], .s [116, 97, 103]]]] 0 0], .fn 61 [.ipt 1 [.agg [.isl 1 [.s [], .s [94], .s [33]]]] 0 0], .fn 61 [.ipt 1 [.agg [.isl 1 [.s [], .s [63]]]] 0 0], .fn 66 [.ipt 1 [.agg [.fn 18 []]] 0 0]], .fn 18 [], by kernel_rfl, by kernel_rfl, by kernel_rfl, by kernel_rfl, .empty, (.cons (.word [[], [105, 115, 111], [116, 114, 110], [114, 101, 102], [118, 97, 108], [98, 111, 120], [116, 97, 103]] (by decide)) (.cons (.word [[], [94], [33]] (by decide)) (.cons (.word [[], [63]] (by decide)) (.cons .maybe23 .nil)))), .inr ⟨_, rfl, .p23⟩, by decide, by decide, by decide, by decide, by decide⟩
theorem rowp19 : RowP 19 := ⟨48, [], [], .nilf, by kernel_rfl, by kernel_rfl, by kernel_rfl, by kernel_rfl, .integer, .nil, .inl ⟨rfl, rfl⟩, by decide, by decide, by decide, by decide, by decide⟩
theorem rowp20 : RowP 20 := ⟨49, [], [], .nilf, by kernel_rfl, by kernel_rfl, by kernel_rfl, by kernel_rfl, .float, .nil, .inl ⟨rfl, rfl⟩, by decide, by decide, by decide, by decide, by decide⟩
theorem rowp21 : RowP 21 := ⟨47, [], [], .nilf, by kernel_rfl, by kernel_rfl, by kernel_rfl, by kernel_rfl, .valid, .nil, .inl ⟨rfl, rfl⟩, by decide, by decide, by decide, by decide, by decide⟩
theorem rowp22 : RowP 22 := ⟨76, [.ipt 1 [.agg [.isl 1 [.s [116, 114, 117, 101], .s [102, 97, 108, 115, 101]]]] 0 0], [], .nilf, by kernel_rfl, by kernel_rfl, by kernel_rfl, by kernel_rfl, .among [[116, 114, 117, 101], [102, 97, 108, 115, 101]] (by decide), .nil, .inl ⟨rfl, rfl⟩, by decide, by decide, by decide, by decide, by decide⟩
theorem rowp23 : RowP 23 := ⟨41, [], [], .nilf, by kernel_rfl, by kernel_rfl, by kernel_rfl, by kernel_rfl, .ident, .nil, .inl ⟨rfl, rfl⟩, by decide, by decide, by decide, by decide, by decide⟩
theorem rowp24 : RowP 24 := ⟨43, [], [], .nilf, by kernel_rfl, by kernel_rfl, by kernel_rfl, by kernel_rfl, .empty, .nil, .inl ⟨rfl, rfl⟩, by decide, by decide, by decide, by decide, by decide⟩
theorem rowp25 : RowP 25 := ⟨43, [], [], .fn 51 [], by kernel_rfl, by kernel_rfl, by kernel_rfl, by kernel_rfl, .empty, .nil, .inr ⟨_, rfl, .p37⟩, by decide, by decide, by decide, by decide, by decide⟩
theorem rowp26 : RowP 26 := ⟨41, [], [.fn 61 [.ipt 1 [.agg [.isl 1 [.s [118, 97, 114], .s [108, 101, 116]]]] 0 0], .fn 18 []], .nilf, by kernel_rfl, by kernel_rfl, by kernel_rfl, by kernel_rfl, .ident, (.cons (.word [[118, 97, 114], [108, 101, 116]] (by decide)) (.cons .p23 .nil)), .inl ⟨rfl, rfl⟩, by decide, by decide, by decide, by decide, by decide⟩
theorem rowp27 : RowP 27 := ⟨43, [], [.fn 52 [], .fn 20 []], .nilf, by kernel_rfl, by kernel_rfl, by kernel_rfl, by kernel_rfl, .empty, (.cons .p38 (.cons .p24 .nil)), .inl ⟨rfl, rfl⟩, by decide, by decide, by decide, by decide, by decide⟩
theorem rowp28 : RowP 28 := ⟨41, [], [.fn 20 []], .nilf, by kernel_rfl, by kernel_rfl, by kernel_rfl, by kernel_rfl, .ident, (.cons .p24 .nil), .inl ⟨rfl, rfl⟩, by decide, by decide, by decide, by decide, by decide⟩
theorem rowp29 : RowP 29 := ⟨41, [], [.fn 20 []], .nilf, by kernel_rfl, by kernel_rfl, by kernel_rfl, by kernel_rfl, .ident, (.cons .p24 .nil), .inl ⟨rfl, rfl⟩, by decide, by decide, by decide, by decide, by decide⟩
theorem rowp30 : RowP 30 := ⟨41, [], [.fn 20 []], .nilf, by kernel_rfl, by kernel_rfl, by kernel_rfl, by kernel_rfl, .ident, (.cons .p24 .nil), .inl ⟨rfl, rfl⟩, by decide, by decide, by decide, by decide, by decide⟩
theorem rowp31 : RowP 31 := ⟨43, [], [.fn 20 [], .fn 61 [.ipt 1 [.agg [.isl 1 [.s [], .s [63]]]] 0 0]], .fn 53 [], by kernel_rfl, by kernel_rfl, by kernel_rfl, by kernel_rfl, .empty, (.cons .p24 (.cons (.word [[], [63]] (by decide)) .nil)), .inr ⟨_, rfl, .p39⟩, by decide, by decide, by decide, by decide, by decide⟩
theorem rowp32 : RowP 32 := ⟨41, [], [.fn 20 []], .nilf, by kernel_rfl, by kernel_rfl, by kernel_rfl, by kernel_rfl, .ident, (.cons .p24 .nil), .inl ⟨rfl, rfl⟩, by decide, by decide, by decide, by decide, by decide⟩
theorem rowp33 : RowP 33 := ⟨43, [], [.fn 20 []], .fn 18 [], by kernel_rfl, by kernel_rfl, by kernel_rfl, by kernel_rfl, .empty, (.cons .p24 .nil), .inr ⟨_, rfl, .p23⟩, by decide, by decide, by decide, by decide, by decide⟩
theorem rowp34 : RowP 34 := ⟨43, [], [], .fn 20 [], by kernel_rfl, by kernel_rfl, by kernel_rfl, by kernel_rfl, .empty, .nil, .inr ⟨_, rfl, .p24⟩, by decide, by decide, by decide, by decide, by decide⟩
theorem rowp35 : RowP 35 := ⟨43, [], [.fn 18 []], .fn 20 [], by kernel_rfl, by kernel_rfl, by kernel_rfl, by kernel_rfl, .empty, (.cons .p23 .nil), .inr ⟨_, rfl, .p24⟩, by decide, by decide, by decide, by decide, by decide⟩
theorem rowp36 : RowP 36 := ⟨76, [.ipt 1 [.agg [.isl 1 [.s [110, 111, 116], .s [45]]]] 0 0], [.fn 20 []], .nilf, by kernel_rfl, by kernel_rfl, by kernel_rfl, by kernel_rfl, .among [[110, 111, 116], [45]] (by decide), (.cons .p24 .nil), .inl ⟨rfl, rfl⟩, by decide, by decide, by decide, by decide, by decide⟩
theorem rowp37 : RowP 37 := ⟨76, [.ipt 1 [.agg [.isl 1 [.s [97, 110, 100], .s [111, 114], .s [120, 111, 114], .s [105, 115], .s [105, 115, 110, 116], .s [43], .s [45], .s [42], .s [47], .s [37], .s [43, 63], .s [45, 63], .s [42, 63], .s [47, 63], .s [37, 63], .s [60, 60], .s [62, 62], .s [61, 61], .s [33, 61], .s [60], .s [60, 61], .s [62], .s [62, 61]]]] 0 0], [.fn 20 [], .fn 20 []], .nilf, by kernel_rfl, by kernel_rfl, by kernel_rfl, by kernel_rfl, .among [[97, 110, 100], [111, 114], [120, 111, 114], [105, 115], [105, 115, 110, 116], [43], [45], [42], [47], [37], [43, 63], [45, 63], [42, 63], [47, 63], [37, 63], [60, 60], [62, 62], [61, 61], [33, 61], [60], [60, 61], [62], [62, 61]] (by decide), (.cons .p24 (.cons .p24 .nil)), .inl ⟨rfl, rfl⟩, by decide, by decide, by decide, by decide, by decide⟩
theorem rowp38 : RowP 38 := ⟨43, [], [.fn 20 [], .fn 18 []], .nilf, by kernel_rfl, by kernel_rfl, by kernel_rfl, by kernel_rfl, .empty, (.cons .p24 (.cons .p23 .nil)), .inl ⟨rfl, rfl⟩, by decide, by decide, by decide, by decide, by decide⟩
theorem rowp39 : RowP 39 := ⟨43, [], [.fn 20 []], .nilf, by kernel_rfl, by kernel_rfl, by kernel_rfl, by kernel_rfl, .empty, (.cons .p24 .nil), .inl ⟨rfl, rfl⟩, by decide, by decide, by decide, by decide, by decide⟩
theorem rowp40 : RowP 40 := ⟨43, [], [.fn 61 [.ipt 1 [.agg [.isl 1 [.s [], .s [105, 115, 111], .s [116, 114, 110], .s [114, 101, 102], .s [118, 97, 108], .s [98, 111, 120], .s [116, 97, 103]]]] 0 0], .fn 20 []], .nilf, by kernel_rfl, by kernel_rfl, by kernel_rfl, by kernel_rfl, .empty, (.cons (.word [[], [105, 115, 111], [116, 114, 110], [114, 101, 102], [118, 97, 108], [98, 111, 120], [116, 97, 103]] (by decide)) (.cons .p24 .nil)), .inl ⟨rfl, rfl⟩, by decide, by decide, by decide, by decide, by decide⟩
theorem rowp41 : RowP 41 := ⟨43, [], [.fn 20 [], .fn 20 [], .fn 66 [.ipt 1 [.agg [.fn 20 []]] 0 0]], .nilf, by kernel_rfl, by kernel_rfl, by kernel_rfl, by kernel_rfl, .empty, (.cons .p24 (.cons .p24 (.cons .maybe24 .nil))), .inl ⟨rfl, rfl⟩, by decide, by decide, by decide, by decide, by decide⟩
theorem rowp42 : RowP 42 := ⟨43, [], [.fn 20 [], .fn 20 [], .fn 66 [.ipt 1 [.agg [.fn 20 []]] 0 0]], .nilf, by kernel_rfl, by kernel_rfl, by kernel_rfl, by kernel_rfl, .empty, (.cons .p24 (.cons .p24 (.cons .maybe24 .nil))), .inl ⟨rfl, rfl⟩, by decide, by decide, by decide, by decide, by decide⟩
theorem rowp43 : RowP 43 := ⟨43, [], [.fn 20 [], .fn 20 [], .fn 66 [.ipt 1 [.agg [.fn 20 []]] 0 0]], .nilf, by kernel_rfl, by kernel_rfl, by kernel_rfl, by kernel_rfl, .empty, (.cons .p24 (.cons .p24 (.cons .maybe24 .nil))), .inl ⟨rfl, rfl⟩, by decide, by decide, by decide, by decide, by decide⟩
theorem rowp44 : RowP 44 := ⟨43, [], [.fn 20 [], .fn 20 []], .nilf, by kernel_rfl, by kernel_rfl, by kernel_rfl, by kernel_rfl, .empty, (.cons .p24 (.cons .p24 .nil)), .inl ⟨rfl, rfl⟩, by decide, by decide, by decide, by decide, by decide⟩
theorem rowp45 : RowP 45 := ⟨41, [], [.fn 18 [], .fn 20 [], .fn 20 [], .fn 66 [.ipt 1 [.agg [.fn 20 []]] 0 0]], .nilf, by kernel_rfl, by kernel_rfl, by kernel_rfl, by kernel_rfl, .ident, (.cons .p23 (.cons .p24 (.cons .p24 (.cons .maybe24 .nil)))), .inl ⟨rfl, rfl⟩, by decide, by decide, by decide, by decide, by decide⟩
theorem rowp46 : RowP 46 := ⟨41, [], [.fn 18 [], .fn 20 [], .fn 20 []], .nilf, by kernel_rfl, by kernel_rfl, by kernel_rfl, by kernel_rfl, .ident, (.cons .p23 (.cons .p24 (.cons .p24 .nil))), .inl ⟨rfl, rfl⟩, by decide, by decide, by decide, by decide, by decide⟩
theorem rowp47 : RowP 47 := ⟨43, [], [.fn 20 [], .fn 66 [.ipt 1 [.agg [.fn 20 []]] 0 0]], .fn 71 [.ipt 1 [.agg [.i .i64 48]] 0 0], by kernel_rfl, by kernel_rfl, by kernel_rfl, by kernel_rfl, .empty, (.cons .p24 (.cons .maybe24 .nil)), .inr ⟨_, rfl, (.kind 48)⟩, by decide, by decide, by decide, by decide, by decide⟩
theorem rowp48 : RowP 48 := ⟨43, [], [.fn 20 [], .fn 66 [.ipt 1 [.agg [.fn 20 []]] 0 0], .fn 20 []], .nilf, by kernel_rfl, by kernel_rfl, by kernel_rfl, by kernel_rfl, .empty, (.cons .p24 (.cons .maybe24 (.cons .p24 .nil))), .inl ⟨rfl, rfl⟩, by decide, by decide, by decide, by decide, by decide⟩
theorem rowp49 : RowP 49 := ⟨43, [], [.fn 20 [], .fn 66 [.ipt 1 [.agg [.fn 20 []]] 0 0], .fn 66 [.ipt 1 [.agg [.fn 20 []]] 0 0]], .nilf, by kernel_rfl, by kernel_rfl, by kernel_rfl, by kernel_rfl, .empty, (.cons .p24 (.cons .maybe24 (.cons .maybe24 .nil))), .inl ⟨rfl, rfl⟩, by decide, by decide, by decide, by decide, by decide⟩
theorem rowp50 : RowP 50 := ⟨43, [], [], .nilf, by kernel_rfl, by kernel_rfl, by kernel_rfl, by kernel_rfl, .empty, .nil, .inl ⟨rfl, rfl⟩, by decide, by decide, by decide, by decide, by decide⟩
theorem rowp51 : RowP 51 := ⟨43, [], [.fn 66 [.ipt 1 [.agg [.fn 20 []]] 0 0]], .nilf, by kernel_rfl, by kernel_rfl, by kernel_rfl, by kernel_rfl, .empty, (.cons .maybe24 .nil), .inl ⟨rfl, rfl⟩, by decide, by decide, by decide, by decide, by decide⟩
theorem rowp52 : RowP 52 := ⟨43, [], [], .nilf, by kernel_rfl, by kernel_rfl, by kernel_rfl, by kernel_rfl, .empty, .nil, .inl ⟨rfl, rfl⟩, by decide, by decide, by decide, by decide, by decide⟩
theorem rowp53 : RowP 53 := ⟨43, [], [], .nilf, by kernel_rfl, by kernel_rfl, by kernel_rfl, by kernel_rfl, .empty, .nil, .inl ⟨rfl, rfl⟩, by decide, by decide, by decide, by decide, by decide⟩
theorem rowp54 : RowP 54 := ⟨43, [], [.fn 61 [.ipt 1 [.agg [.isl 1 [.s [], .s [105, 115, 111], .s [116, 114, 110], .s [114, 101, 102], .s [118, 97, 108], .s [98, 111, 120], .s [116, 97, 103]]]] 0 0], .fn 66 [.ipt 1 [.agg [.fn 18 []]] 0 0]], .fn 22 [], by kernel_rfl, by kernel_rfl, by kernel_rfl, by kernel_rfl, .empty, (.cons (.word [[], [105, 115, 111], [116, 114, 110], [114, 101, 102], [118, 97, 108], [98, 111, 120], [116, 97, 103]] (by decide)) (.cons .maybe23 .nil)), .inr ⟨_, rfl, .p32⟩, by decide, by decide, by decide, by decide, by decide⟩
theorem rowp55 : RowP 55 := ⟨43, [], [.fn 61 [.ipt 1 [.agg [.isl 1 [.s [], .s [105, 115, 111], .s [116, 114, 110], .s [114, 101, 102], .s [118, 97, 108], .s [98, 111, 120], .s [116, 97, 103]]]] 0 0], .fn 71 [.ipt 1 [.agg [.i .i64 10]] 0 0], .fn 66 [.ipt 1 [.agg [.fn 18 []]] 0 0], .fn 61 [.ipt 1 [.agg [.isl 1 [.s [], .s [63]]]] 0 0], .fn 20 []], .fn 71 [.ipt 1 [.agg [.i .i64 56]] 0 0], by kernel_rfl, by kernel_rfl, by kernel_rfl, by kernel_rfl, .empty, (.cons (.word [[], [105, 115, 111], [116, 114, 110], [114, 101, 102], [118, 97, 108], [98, 111, 120], [116, 97, 103]] (by decide)) (.cons (.kind 10) (.cons .maybe23 (.cons (.word [[], [63]] (by decide)) (.cons .p24 .nil))))), .inr ⟨_, rfl, (.kind 56)⟩, by decide, by decide, by decide, by decide, by decide⟩
theorem rowp56 : RowP 56 := ⟨41, [], [.fn 18 [], .fn 20 []], .nilf, by kernel_rfl, by kernel_rfl, by kernel_rfl, by kernel_rfl, .ident, (.cons .p23 (.cons .p24 .nil)), .inl ⟨rfl, rfl⟩, by decide, by decide, by decide, by decide, by decide⟩
theorem rowp_at (k : Nat) (h1 : 1 ≤ k) (h2 : k ≤ 56) : RowP k := by
  rcases Nat.le.dest h1 with ⟨j, rfl⟩
  have : j = 0 ∨ j = 1 ∨ j = 2 ∨ j = 3 ∨ j = 4 ∨ j = 5 ∨ j = 6 ∨ j = 7 ∨ j = 8 ∨ j = 9 ∨ j = 10 ∨ j = 11 ∨ j = 12 ∨ j = 13 ∨ j = 14 ∨ j = 15 ∨ j = 16 ∨ j = 17 ∨ j = 18 ∨ j = 19 ∨ j = 20 ∨ j = 21 ∨ j = 22 ∨ j = 23 ∨ j = 24 ∨ j = 25 ∨ j = 26 ∨ j = 27 ∨ j = 28 ∨ j = 29 ∨ j = 30 ∨ j = 31 ∨ j = 32 ∨ j = 33 ∨ j = 34 ∨ j = 35 ∨ j = 36 ∨ j = 37 ∨ j = 38 ∨ j = 39 ∨ j = 40 ∨ j = 41 ∨ j = 42 ∨ j = 43 ∨ j = 44 ∨ j = 45 ∨ j = 46 ∨ j = 47 ∨ j = 48 ∨ j = 49 ∨ j = 50 ∨ j = 51 ∨ j = 52 ∨ j = 53 ∨ j = 54 ∨ j = 55 := by omega
  rcases this with rfl | rfl | rfl | rfl | rfl | rfl | rfl | rfl | rfl | rfl | rfl | rfl | rfl | rfl | rfl | rfl | rfl | rfl | rfl | rfl | rfl | rfl | rfl | rfl | rfl | rfl | rfl | rfl | rfl | rfl | rfl | rfl | rfl | rfl | rfl | rfl | rfl | rfl | rfl | rfl | rfl | rfl | rfl | rfl | rfl | rfl | rfl | rfl | rfl | rfl | rfl | rfl | rfl | rfl | rfl | rfl
  · exact rowp1
  · exact rowp2
  · exact rowp3
  · exact rowp4
  · exact rowp5
  · exact rowp6
  · exact rowp7
  · exact rowp8
  · exact rowp9
  · exact rowp10
  · exact rowp11
  · exact rowp12
  · exact rowp13
  · exact rowp14
  · exact rowp15
  · exact rowp16
  · exact rowp17
  · exact rowp18
  · exact rowp19
  · exact rowp20
  · exact rowp21
  · exact rowp22
  · exact rowp23
  · exact rowp24
  · exact rowp25
  · exact rowp26
  · exact rowp27
  · exact rowp28
  · exact rowp29
  · exact rowp30
  · exact rowp31
  · exact rowp32
  · exact rowp33
  · exact rowp34
  · exact rowp35
  · exact rowp36
  · exact rowp37
  · exact rowp38
  · exact rowp39
  · exact rowp40
  · exact rowp41
  · exact rowp42
  · exact rowp43
  · exact rowp44
  · exact rowp45
  · exact rowp46
  · exact rowp47
  · exact rowp48
  · exact rowp49
  · exact rowp50
  · exact rowp51
  · exact rowp52
  · exact rowp53
  · exact rowp54
  · exact rowp55
  · exact rowp56
def kidP (ps : List (Nd → Bool)) (rp : Option (Nd → Bool)) (i : Nat) (y : Nd) : Bool := match ps[i]? with
  | some p => p y
  | none => match rp with
    | some p => p y
    | none => false
def oneP (x : Nd) : Bool := if x.kind < 1 then false else if (56 : Int) < x.kind then false else
  (rowT x.kind.toNat).1 x.text && (!decide ((x.kids.length : Int) < (rowT x.kind.toNat).2.1.length + (rowT x.kind.toNat).2.2.2) && (!((rowT x.kind.toNat).2.2.1.isNone && decide (((rowT x.kind.toNat).2.1.length : Int) < x.kids.length)) &&
    (allI (kidP (rowT x.kind.toNat).2.1 (rowT x.kind.toNat).2.2.1) 0 x.kids && moreP x)))
theorem NPL_at : ∀ {kl : List V} {ps : List (Nd → Bool)}, NPL kl ps → kl.length = ps.length ∧ ∀ (i : Nat) (v : V), kl[i]? = some v → ∃ p, ps[i]? = some p ∧ NPp v p
  | _, _, .nil => ⟨rfl, fun i v h => by simp at h⟩
  | _, _, .cons hp hl => by
    obtain ⟨h1, h2⟩ := NPL_at hl
    refine ⟨by simp [h1], fun i v h => ?_⟩
    cases i with
    | zero => simp at h; subst h; exact ⟨_, rfl, hp⟩
    | succ i => simp at h; obtain ⟨q, hq, hn⟩ := h2 i v h; exact ⟨q, by simpa using hq, hn⟩
theorem sp40p : ∃ g, SpecOK Tryz.prog TT 54 g ∧ ∀ x : Nd, x.num < NT → x.text.length < NT → ∀ H, g [CKV, x.enc] H = .val (.b (oneP x)) H := by
  obtain ⟨cp, hp⟩ := predsP
  obtain ⟨g5, k5, s5⟩ := sp65p
  have hC := ws hp.sound k5
  obtain ⟨g, hg, hs⟩ := spec_val TT_ok TT_plain 54 (fun x : Nd => [CKV, x.enc]) (fun x => x.num < NT ∧ x.text.length < NT) (fun x => .b (oneP x)) (fun x _ => by simp [nlL, nl, Nd.enc_nl, shCells_nl]) (fun _ => rfl) (fun a b h => by
    simp only [List.cons.injEq, true_and, and_true] at h
    rw [Nd.enc_inj _ _ h]) (fun x hx => by
    obtain ⟨hn, htx⟩ := hx
    have hN : NT = 1090000 := rfl
    have hlk := kids_len hn
    apply EBody.of2
    unfold oneP
    cases h1 : decide (x.kind < 1) with
    | true => rw [if_pos (by simpa using h1)]; exact body_40plo hC x h1
    | false =>
    rw [if_neg (by simpa using h1)]
    cases h2 : decide ((56 : Int) < x.kind) with
    | true => rw [if_pos (by simpa using h2)]; exact body_40phi hC x h1 h2
    | false =>
    rw [if_neg (by simpa using h2)]
    simp only [decide_eq_false_iff_not] at h1 h2
    obtain ⟨k, hk⟩ : ∃ k : Nat, x.kind = k := ⟨x.kind.toNat, by omega⟩
    have hkk : x.kind.toNat = k := by omega
    rw [hkk]
    rw [hk] at h1 h2
    obtain ⟨tf, tc, kl, rs, c1, c2, c3, c4, htp, hnp, hrs, hne, l2, l7, q31, q3⟩ := rowp_at k (by omega) (by omega)
    generalize hrow : rowT k = row at c4 htp hnp hrs l2 l7 q31 q3 ⊢
    obtain ⟨tp, ps, rp, lst⟩ := row
    simp only at c4 htp hnp hrs l2 l7 q31 q3 ⊢
    obtain ⟨hll, hat⟩ := NPL_at hnp
    obtain ⟨hx0, ht0⟩ := hp.text tf tc tp htp
    have ht : ∀ H, (cp.with 78 g5) tf (.s x.text :: tc) H = .val (.b (tp x.text)) H := fun H => by rw [w_other _ _ _ _ hne]; exact ht0 x.text htx H
    have wl : IntKind.i64.wrap (kl.length + (lst : Int)) = kl.length + (lst : Int) := wrap_i64 (by omega) (by omega)
    cases htt : tp x.text with
    | false => exact body_40pa hC x k hk h1 h2 (by omega) tf tc kl rs lst c1 c2 c3 c4 hx0 wl fun H => by rw [ht, htt]
    | true =>
    rw [Bool.true_and]
    have ht' : ∀ H, (cp.with 78 g5) tf (.s x.text :: tc) H = .val (.b true) H := fun H => by rw [ht, htt]
    rw [← hll]
    by_cases hl : (x.kids.length : Int) < kl.length + (lst : Int)
    · rw [decide_eq_true hl]
      exact body_40pb hC x k hk h1 h2 (by omega) tf tc kl rs lst c1 c2 c3 c4 hx0 wl ht' hl
    rw [decide_eq_false hl, Bool.not_false, Bool.true_and]
    have hm : ∀ H, (cp.with 78 g5) 78 [.ipt 285 [.agg shCells] 0 0, x.enc] H = .val (.b (moreP x)) H := fun H => by rw [w_here]; exact s5 x ⟨hn, fun e => by have := q31 (by omega); omega, fun e => by have := q3 (by omega); omega⟩ H
    have hpred : ∀ v p, NPp v p → ∀ y, y ∈ x.kids → ∃ f c, v = .fn f c ∧ TT.ext f = none ∧ ∀ H, (cp.with 78 g5) f (y.enc :: c) H = .val (.b (p y)) H := fun v p hv y hy => by
      obtain ⟨f, c, e, hf, hb⟩ := hp.node v p hv
      have := num_kid hn hy
      have hne : (f == 78) = false := by subst e; cases hv <;> rfl
      exact ⟨f, c, e, hf, fun H => by rw [w_other _ _ _ _ hne]; exact hb y this H⟩
    have hkid : ∀ i y, x.kids[i]? = some y → (i < kl.length ∨ ∃ p, rp = some p ∧ NPp rs p) → KidP (cp.with 78 g5) kl rs (kidP ps rp) i y := fun i y hy ho => by
      have hmem := List.mem_of_getElem? hy
      by_cases hi : i < kl.length
      · obtain ⟨p, hpi, hpn⟩ := hat i kl[i] (List.getElem?_eq_getElem hi)
        obtain ⟨f, c, e, hf, hb⟩ := hpred _ p hpn y hmem
        exact ⟨f, c, by rw [if_pos hi, List.getElem?_eq_getElem hi, e], hf, fun H => by rw [hb]; simp only [kidP, hpi]⟩
      · obtain ⟨p, hr, hpn⟩ := ho.resolve_left hi
        obtain ⟨f, c, e, hf, hb⟩ := hpred rs p hpn y hmem
        have hno : ps[i]? = none := List.getElem?_eq_none (by omega)
        exact ⟨f, c, by rw [if_neg hi, e], hf, fun H => by rw [hb]; simp only [kidP, hno, hr]⟩
    rcases hrs with ⟨hr, hrn⟩ | ⟨p, hrp, hr⟩
    · rw [hrn, Option.isNone_none, Bool.true_and]
      by_cases hl2 : (kl.length : Int) < x.kids.length
      · rw [decide_eq_true hl2]
        exact body_40pc hC x k hk h1 h2 (by omega) tf tc kl rs lst c1 c2 c3 c4 hx0 wl hr ht' hl hl2
      · rw [decide_eq_false hl2, Bool.not_false, Bool.true_and, ← hrn]
        exact body_40pd hC x k hk h1 h2 (by omega) tf tc kl rs lst c1 c2 c3 c4 hx0 wl hr hl2 _ _ hm (fun i y hy => hkid i y hy (.inl (by
          have := (List.getElem?_eq_some_iff.1 hy).1; omega))) hlk ht' hl
    · obtain ⟨f, c, e, _⟩ := hp.node rs p hr
      rw [hrp, Option.isNone_some, Bool.false_and, Bool.not_false, Bool.true_and, ← hrp]
      exact body_40pe hC x k hk h1 h2 (by omega) tf tc kl rs lst c1 c2 c3 c4 hx0 wl f c e _ _ hm (fun i y hy => hkid i y hy (.inr ⟨p, hrp, hr⟩)) hlk ht' hl)
  exact ⟨g, hg, fun x h1 h2 => hs x ⟨h1, h2⟩⟩
theorem sp8P : ∃ g, SpecOK Tryz.prog TT 14 g ∧ ∀ x : Nd, x.num < NT ∧ x.tok → ∀ H, g [x.enc] H = .val (.i .i64 (chkV oneP x)) H := by
  obtain ⟨g, k, s⟩ := sp40p
  exact sp8p oneP g k s
def okL : List (Nd → Bool) → (Nd → Bool) → List Nd → Bool
  | _, _, [] => true
  | [], r, y :: L => r y && okL [] r L
  | p :: ps, r, y :: L => p y && okL ps r L
theorem drop_at {α : Type} {l : List α} {i : Nat} {a : α} (h : l[i]? = some a) : l.drop i = a :: l.drop (i + 1) := by
  obtain ⟨h1, rfl⟩ := List.getElem?_eq_some_iff.1 h
  exact List.drop_eq_getElem_cons h1
theorem drop_no {α : Type} {l : List α} {i : Nat} (h : l[i]? = none) : l.drop i = [] ∧ l.drop (i + 1) = [] := by
  have := List.getElem?_eq_none_iff.1 h
  exact ⟨List.drop_eq_nil_of_le this, List.drop_eq_nil_of_le (by omega)⟩
theorem allI_okL (ps : List (Nd → Bool)) (rp : Option (Nd → Bool)) : ∀ (L : List Nd) (i : Nat), allI (kidP ps rp) i L = okL (ps.drop i) (rp.getD fun _ => false) L
  | [], i => by cases ps.drop i <;> rfl
  | y :: L, i => by
    rw [allI, allI_okL ps rp L (i + 1)]
    cases h : ps[i]? with
    | some p => rw [drop_at h, okL]; simp only [kidP, h]
    | none =>
      obtain ⟨h1, h2⟩ := drop_no h
      rw [h1, h2, okL]
      simp only [kidP, h]
      cases rp <;> rfl
theorem nodF_okL (fs : List UInt8) (m : Nat) : ∀ (L : List Nd) (i : Nat), nodF fs m i L = okL ((fs.drop i).map fun c y => fitsR y c.toNat) (fun y => moreR y m) L
  | [], i => by cases ((fs.drop i).map fun c y => fitsR y c.toNat) <;> rfl
  | y :: L, i => by
    rw [nodF, nodF_okL fs m L (i + 1)]
    cases h : fs[i]? with
    | some c => rw [drop_at h, List.map_cons, okL]; simp only [kidR, h]
    | none =>
      obtain ⟨h1, h2⟩ := drop_no h
      rw [h1, h2, List.map_nil, okL]
      simp only [kidR, h]
theorem okL_len : ∀ (ps : List (Nd → Bool)) (L : List Nd), okL ps (fun _ => false) L = true → L.length ≤ ps.length
  | ps, [], _ => by simp
  | [], y :: L, h => by simp [okL] at h
  | p :: ps, y :: L, h => by
    simp only [okL, Bool.and_eq_true] at h
    have := okL_len ps L h.2
    simp; omega
theorem none_drop (rp : Option (Nd → Bool)) (ps : List (Nd → Bool)) (L : List Nd) (m : Bool) : (!(rp.isNone && decide ((ps.length : Int) < L.length)) && (okL ps (rp.getD fun _ => false) L && m)) = (okL ps (rp.getD fun _ => false) L && m) := by
  cases rp with
  | some p => rfl
  | none =>
    simp only [Option.isNone_none, Option.getD_none, Bool.true_and]
    cases h : okL ps (fun _ => false) L with
    | false => simp
    | true =>
      have := okL_len ps L h
      rw [decide_eq_false (by omega)]
      rfl
theorem one_node {x : Nd} (k : Nat) (hk : x.kind = k) (h1 : 1 ≤ k) (h2 : k ≤ 56) (tp : List UInt8 → Bool) (ps : List (Nd → Bool)) (rp : Option (Nd → Bool)) (lst : Nat) (hrow : rowT k = (tp, ps, rp, lst)) (fs : List UInt8) (m : Nat) (hsh : shapeR k = (fs, m)) (ht : tp x.text = textR x)
    (hkids : (!decide ((x.kids.length : Int) < ps.length + lst) && (okL ps (rp.getD fun _ => false) x.kids && moreP x)) = (!decide ((x.kids.length : Int) < fs.length) && (okL (fs.map fun c y => fitsR y c.toNat) (fun y => moreR y m) x.kids && more2R x))) : oneP x = nodeR x := by
  have hkk : x.kind.toNat = k := by omega
  unfold oneP nodeR
  rw [hkk, hrow, hsh, if_neg (by omega), if_neg (by omega), if_neg (by omega), if_neg (by omega)]
  simp only
  rw [allI_okL, nodF_okL, List.drop_zero, List.drop_zero, none_drop, ht, hkids]
theorem one_simple {x : Nd} (k : Nat) (hk : x.kind = k) (h1 : 1 ≤ k) (h2 : k ≤ 56) (tp : List UInt8 → Bool) (ps : List (Nd → Bool)) (rp : Option (Nd → Bool)) (hrow : rowT k = (tp, ps, rp, 0)) (fs : List UInt8) (m : Nat) (hsh : shapeR k = (fs, m)) (ht : tp x.text = textR x)
    (hps : (fs.map fun c (y : Nd) => fitsR y c.toNat) = ps) (hr : (fun y => moreR y m) = (rp.getD fun _ => false)) (hm : moreP x = more2R x) : oneP x = nodeR x := by
  refine one_node k hk h1 h2 tp ps rp 0 hrow fs m hsh ht ?_
  rw [hps, hr, hm]
  have : fs.length = ps.length := by rw [← hps]; simp
  simp [this]
theorem f_t : (fun y : Nd => fitsR y (116 : UInt8).toNat) = isTypR := rfl
theorem f_T : (fun y : Nd => fitsR y (84 : UInt8).toNat) = orN isTypR := by funext y; show (isTypR y || (y.kind == 5)) = ((y.kind == 5) || isTypR y); rw [Bool.or_comm]
theorem f_e : (fun y : Nd => fitsR y (101 : UInt8).toNat) = isExpR := rfl
theorem f_E : (fun y : Nd => fitsR y (69 : UInt8).toNat) = orN isExpR := by funext y; show (isExpR y || (y.kind == 5)) = ((y.kind == 5) || isExpR y); rw [Bool.or_comm]
theorem f_B : (fun y : Nd => fitsR y (66 : UInt8).toNat) = isK 6 := rfl
theorem f_P : (fun y : Nd => fitsR y (80 : UInt8).toNat) = isK 10 := rfl
theorem beq_c (a b : List UInt8) : (a == b) = (b == a) := by
  rw [Bool.eq_iff_iff]; simp only [beq_iff_eq]; exact ⟨fun h => h.symm, fun h => h.symm⟩
theorem inW_eq (l : List (List UInt8)) (s : List UInt8) : (l.any fun w => w == s) = inW l s := by
  unfold inW
  congr 1
  funext w
  exact beq_c _ _
theorem f_word (c : UInt8) (l : List (List UInt8)) (hl : wordsR c.toNat = l) (h : c.toNat ≠ 116 ∧ c.toNat ≠ 84 ∧ c.toNat ≠ 101 ∧ c.toNat ≠ 69 ∧ c.toNat ≠ 66 ∧ c.toNat ≠ 80) : (fun y : Nd => fitsR y c.toNat) = isW l := by
  funext y
  unfold fitsR isW
  rw [if_neg h.1, if_neg h.2.1, if_neg h.2.2.1, if_neg h.2.2.2.1, if_neg h.2.2.2.2.1, if_neg h.2.2.2.2.2, hl, inW_eq]
theorem f_k : (fun y : Nd => fitsR y (107 : UInt8).toNat) = isW [[99, 108, 97, 115, 115], [97, 99, 116, 111, 114], [112, 114, 105, 109, 105, 116, 105, 118, 101], [116, 114, 97, 105, 116], [105, 110, 116, 101, 114, 102, 97, 99, 101], [116, 121, 112, 101]] := f_word 107 _ rfl (by decide)
theorem f_c : (fun y : Nd => fitsR y (99 : UInt8).toNat) = isW [[], [105, 115, 111], [116, 114, 110], [114, 101, 102], [118, 97, 108], [98, 111, 120], [116, 97, 103]] := f_word 99 _ rfl (by decide)
theorem f_g : (fun y : Nd => fitsR y (103 : UInt8).toNat) = isW [[], [105, 115, 111], [116, 114, 110], [114, 101, 102], [118, 97, 108], [98, 111, 120], [116, 97, 103], [35, 114, 101, 97, 100], [35, 115, 101, 110, 100], [35, 115, 104, 97, 114, 101], [35, 97, 108, 105, 97, 115], [35, 97, 110, 121]] := by
  rw [f_word 103 _ rfl (by decide)]
  funext y
  unfold isW
  congr 1
  unfold inW
  show (([([] : List UInt8), [35, 114, 101, 97, 100], [35, 115, 101, 110, 100], [35, 115, 104, 97, 114, 101], [35, 97, 108, 105, 97, 115], [35, 97, 110, 121], [105, 115, 111], [116, 114, 110], [114, 101, 102], [118, 97, 108], [98, 111, 120], [116, 97, 103]]).any fun x => y.text == x) = _
  simp only [List.any_cons, List.any_nil]
  ac_rfl
theorem f_v : (fun y : Nd => fitsR y (118 : UInt8).toNat) = isW [[118, 97, 114], [108, 101, 116]] := f_word 118 _ rfl (by decide)
theorem f_n : (fun y : Nd => fitsR y (110 : UInt8).toNat) = isW [[110, 101, 119], [102, 117, 110], [98, 101]] := f_word 110 _ rfl (by decide)
theorem f_q : (fun y : Nd => fitsR y (113 : UInt8).toNat) = isW [[], [63]] := f_word 113 _ rfl (by decide)
theorem f_w : (fun y : Nd => fitsR y (119 : UInt8).toNat) = isW [[], [94], [33]] := f_word 119 _ rfl (by decide)
theorem m_0 : (fun y : Nd => moreR y 0) = fun _ => false := rfl
theorem m_m : (fun y : Nd => moreR y 109) = isMemR := rfl
theorem m_b : (fun y : Nd => moreR y 98) = isK 7 := rfl
theorem m_p : (fun y : Nd => moreR y 112) = isK 11 := rfl
theorem m_t : (fun y : Nd => moreR y 116) = isTypR := rfl
theorem m_e : (fun y : Nd => moreR y 101) = isExpR := rfl
theorem m_a : (fun y : Nd => moreR y 97) = fun x => isExpR x || (x.kind == 32) := rfl
theorem m_x : (fun y : Nd => moreR y 120) = isK 48 := rfl
theorem m_y : (fun y : Nd => moreR y 121) = isK 56 := rfl
theorem m_u : (fun y : Nd => moreR y 117) = fun x => (x.kind == 2) || (x.kind == 3) := rfl
theorem pathG_end (s : List UInt8) (n i j : Nat) (h : s.length < i) : pathG s n i j = true := by
  cases n with
  | zero => rfl
  | succ n => rw [pathG, if_pos h]
theorem pathG_eq (s : List UInt8) : ∀ (n i j : Nat), s.length + 2 - i ≤ n → j ≤ i → i ≤ s.length → pathG s n i j = pathF ((s.take i).drop j) (s.drop i)
  | 0, i, j, hn, _, hi => by omega
  | n + 1, i, j, hn, hj, hi => by
    rw [pathG, if_neg (by omega)]
    by_cases he : s.length = i
    · rw [if_pos (.inl he), pathG_end s n (i + 1) (i + 1) (by omega), Bool.and_true, List.drop_eq_nil_of_le (by omega : s.length ≤ i), pathF]
    · obtain ⟨b, hb⟩ : ∃ b, s[i]? = some b := ⟨s[i]'(by omega), List.getElem?_eq_getElem _⟩
      rw [drop_at hb, pathF, atR_get hb]
      have ih := fun j hj => pathG_eq s n (i + 1) j (by omega) hj (by omega)
      by_cases h47 : b = 47
      · subst h47
        have e : (s.take (i + 1)).drop (i + 1) = [] := List.drop_eq_nil_of_le (by rw [List.length_take]; omega)
        rw [if_pos (.inr rfl), if_pos (by decide), ih (i + 1) (Nat.le_refl _), e]
      · rw [if_neg (by rintro (h | h); exact he h; exact h47 (u8_inj (by simp; omega))), if_neg (by simpa using h47), ih j (by omega)]
        congr 1
        rw [List.take_add_one, hb, List.drop_append_of_le_length (by rw [List.length_take]; omega)]
        rfl
theorem dotG_eq (s : List UInt8) : ∀ (n i : Nat), s.length + 1 - i < n → (46 : UInt8) ∉ s.take i → dotG s n i = dotR s
  | 0, i, hn, hno => by omega
  | n + 1, i, hn, hno => by
    rw [dotG]
    by_cases hl : s.length ≤ i
    · rw [if_pos hl]
      unfold dotR
      rw [cutV_not (by rwa [List.take_of_length_le hl] at hno)]
      rfl
    · obtain ⟨b, hb⟩ : ∃ b, s[i]? = some b := ⟨s[i]'(by omega), List.getElem?_eq_getElem _⟩
      rw [if_neg hl, atR_get hb]
      by_cases h46 : b = 46
      · subst h46
        rw [if_pos (by decide)]
        unfold dotR
        have e : s = s.take i ++ 46 :: s.drop (i + 1) := by
          have := List.take_append_drop i s
          rw [drop_at hb] at this
          exact this.symm
        have ec : cutV s 46 = (s.take i, s.drop (i + 1), true) := by
          conv => lhs; rw [e]
          exact cutV_app hno
        rw [ec, if_pos rfl]
      · rw [if_neg (fun h => h46 (u8_inj (by simp; omega)))]
        refine dotG_eq s n (i + 1) (by omega) ?_
        rw [List.take_add_one, hb]
        simp [hno, Ne.symm h46]
theorem txt2 (x : Nd) (hk : x.kind = 2) : (rowT 2).1 x.text = textR x := by
  show pathN 47 0 x.text = _
  unfold textR
  rw [if_pos (by simp [hk]), pathN_slash, pathG_eq _ _ 0 0 (by omega) (Nat.le_refl _) (by omega)]
  rfl
theorem txt12 (x : Nd) (hk : x.kind = 12) : (rowT 12).1 x.text = textR x := by
  show pathN 46 2 x.text = _
  have e : textR x = dotG x.text (x.text.length + 1 + 1) 0 := by unfold textR; simp [hk, idK]
  rw [e, pathN_dot, dotG_eq _ _ 0 (by omega) (by simp)]
theorem txt22 (x : Nd) (hk : x.kind = 22) : (rowT 22).1 x.text = textR x := by
  show inW _ x.text = _
  have e : textR x = ((x.text == [116, 114, 117, 101]) || (x.text == [102, 97, 108, 115, 101])) := by unfold textR; simp [hk, idK]
  rw [e]
  simp [inW]
theorem txt36 (x : Nd) (hk : x.kind = 36) : (rowT 36).1 x.text = textR x := by
  show inW _ x.text = _
  have e : textR x = ((x.text == [110, 111, 116]) || (x.text == [45])) := by unfold textR; simp [hk, idK]
  rw [e]
  simp [inW]
theorem txt37 (x : Nd) (hk : x.kind = 37) : (rowT 37).1 x.text = textR x := by
  have e : textR x = (opL.any fun y => y == x.text) := by unfold textR; simp [hk, idK]
  rw [e, inW_eq]
  rfl
theorem more3 (x : Nd) (hk : x.kind = 3) : moreP x = more2R x := by
  unfold moreP more2R
  rw [if_neg (by omega), if_neg (by omega), if_pos hk, if_neg (by simp [hk]), if_neg (by simp [hk]), if_pos (by simp [hk])]
  generalize x.kids = l
  match l with
  | a :: b :: c :: d :: r => simp only [Bool.and_comm]
  | [] | [_] | [_, _] | [_, _, _] => rfl
theorem okL_rep (r : Nd → Bool) : ∀ (n : Nat) (L : List Nd), okL (List.replicate n r) r L = okL [] r L
  | 0, L => rfl
  | n + 1, [] => rfl
  | n + 1, y :: L => by rw [List.replicate_succ, okL, okL, okL_rep r n L]
theorem kk_rep (r : Nd → Bool) (L : List Nd) {a b : Bool} (h : a = b) : (!decide ((L.length : Int) < ([] : List (Nd → Bool)).length + (2 : Nat)) && (okL [] ((some r).getD fun _ => false) L && a)) = (!decide ((L.length : Int) < ([116, 116] : List UInt8).length) && (okL [r, r] r L && b)) := by
  have e : okL [r, r] r L = okL [] r L := okL_rep r 2 L
  rw [e, h]
  rfl
theorem okL_and (p q : Nd → Bool) : ∀ L : List Nd, okL [] (fun x => p x && q x) L = (okL [] p L && L.all q)
  | [] => rfl
  | y :: L => by
    rw [okL, okL, okL_and p q L, List.all_cons]
    cases p y <;> cases q y <;> simp
theorem kk_seq (x : Nd) (hk : x.kind = 25) : (!decide ((x.kids.length : Int) < ([] : List (Nd → Bool)).length + (2 : Nat)) && (okL [] ((some fun x => isExpR x && (x.kind != 25)).getD fun _ => false) x.kids && moreP x)) = (!decide ((x.kids.length : Int) < ([101, 101] : List UInt8).length) && (okL [isExpR, isExpR] isExpR x.kids && more2R x)) := by
  have e : okL [isExpR, isExpR] isExpR x.kids = okL [] isExpR x.kids := okL_rep isExpR 2 _
  have m1 : moreP x = true := by simp [moreP, hk]
  have m2 : more2R x = (x.kids.all fun y => y.kind != 25) := by simp [more2R, hk]
  rw [e, m1, m2, Bool.and_true, Option.getD_some, okL_and]
  rfl
theorem kk_qual (x : Nd) (h : moreP x = more2R x) : (!decide ((x.kids.length : Int) < ([isExpR] : List (Nd → Bool)).length + (1 : Nat)) && (okL [isExpR] ((some isTypR).getD fun _ => false) x.kids && moreP x)) = (!decide ((x.kids.length : Int) < ([101, 116] : List UInt8).length) && (okL [isExpR, isTypR] isTypR x.kids && more2R x)) := by
  have e : okL [isExpR, isTypR] isTypR x.kids = okL [isExpR] isTypR x.kids := by
    cases x.kids with
    | nil => rfl
    | cons y L => rw [okL, okL]; congr 1; exact okL_rep isTypR 1 L
  rw [e, h, Option.getD_some]
  rfl
theorem kk_match (x : Nd) (hk : x.kind = 47) : (!decide ((x.kids.length : Int) < ([isExpR, orN isExpR] : List (Nd → Bool)).length + (1 : Nat)) && (okL [isExpR, orN isExpR] ((some (isK 48)).getD fun _ => false) x.kids && moreP x)) = (!decide ((x.kids.length : Int) < ([101, 69] : List UInt8).length) && (okL [isExpR, orN isExpR] (isK 48) x.kids && more2R x)) := by
  have m1 : moreP x = true := by simp [moreP, hk]
  have m2 : more2R x = decide ((2 : Int) < x.kids.length) := by simp [more2R, hk]
  rw [m1, m2, Bool.and_true, Option.getD_some]
  by_cases h : (2 : Int) < x.kids.length
  · have h1 : ¬ ((x.kids.length : Int) < ([isExpR, orN isExpR] : List (Nd → Bool)).length + (1 : Nat)) := by simp only [List.length_cons, List.length_nil]; omega
    have h2 : ¬ ((x.kids.length : Int) < ([101, 69] : List UInt8).length) := by simp only [List.length_cons, List.length_nil]; omega
    rw [decide_eq_true h, decide_eq_false h1, decide_eq_false h2, Bool.and_true]
  · have h1 : (x.kids.length : Int) < ([isExpR, orN isExpR] : List (Nd → Bool)).length + (1 : Nat) := by simp only [List.length_cons, List.length_nil]; omega
    rw [decide_eq_false h, decide_eq_true h1, Bool.and_false, Bool.and_false]
    rfl
theorem asg_exp {y : Nd} (h : asgR y = true) : isExpR y = true := by
  rw [asgR_eq] at h
  have : y.kind = 34 ∨ y.kind = 23 ∨ y.kind = 26 ∨ y.kind = 28 ∨ y.kind = 31 := by
    split at h
    · rename_i hk; left; simpa using hk
    · simp only [Bool.or_eq_true, beq_iff_eq] at h; omega
  unfold isExpR
  rcases this with e | e | e | e | e <;> rw [e] <;> decide
theorem kk_asg (x : Nd) (hk : x.kind = 27) : (!decide ((x.kids.length : Int) < ([asgR, isExpR] : List (Nd → Bool)).length + (0 : Nat)) && (okL [asgR, isExpR] ((none : Option (Nd → Bool)).getD fun _ => false) x.kids && moreP x)) = (!decide ((x.kids.length : Int) < ([101, 101] : List UInt8).length) && (okL [isExpR, isExpR] (fun _ => false) x.kids && more2R x)) := by
  have m1 : moreP x = true := by simp [moreP, hk]
  have m2 : more2R x = (match x.kids with
    | a :: _ => asgR a
    | [] => false) := by simp [more2R, hk]; cases x.kids <;> rfl
  rw [m1, m2, Bool.and_true, Option.getD_none]
  cases x.kids with
  | nil => rfl
  | cons y L =>
    simp only [okL]
    have e : (((y :: L).length : Int) < ([asgR, isExpR] : List (Nd → Bool)).length + (0 : Nat)) = (((y :: L).length : Int) < ([101, 101] : List UInt8).length) := rfl
    simp only [e]
    congr 1
    cases ha : asgR y with
    | false => simp
    | true => rw [asg_exp ha]; simp
theorem ordF_true : ∀ l : List Nd, ordF true l = l.all fun y => (y.kind == 3 || y.kind == 32)
  | [] => rfl
  | y :: l => by
    rw [ordF, List.all_cons]
    cases h : (y.kind == 3 || y.kind == 32) with
    | true => rw [if_pos rfl, ordF_true l, Bool.true_and]
    | false => simp
theorem idxF_shift (p : Nd → Bool) : ∀ (l : List Nd) (i : Nat), idxF p l (i + 1) = if idxF p l i < 0 then -1 else idxF p l i + 1
  | [], i => by simp [idxF]
  | y :: l, i => by
    simp only [idxF]
    split
    · rw [if_neg (by omega)]; push_cast; rfl
    · exact idxF_shift p l (i + 1)
theorem idxF_ge (p : Nd → Bool) : ∀ (l : List Nd) (i : Nat), idxF p l i = -1 ∨ 0 ≤ idxF p l i
  | [], i => .inl rfl
  | y :: l, i => by
    simp only [idxF]
    split
    · right; omega
    · exact idxF_ge p l (i + 1)
theorem ord_eq (k : Int) : ∀ l : List Nd, (∀ y ∈ l, (y.kind == 3 || y.kind == 32) = (y.kind == k)) → ordF false l = ordP l k
  | [], _ => by simp [ordF, ordP, idxF]
  | y :: l, h => by
    have ih := ord_eq k l fun z hz => h z (by simp [hz])
    have hy := h y (by simp)
    rw [ordF, hy]
    cases hk : (y.kind == k) with
    | true =>
      rw [if_pos rfl, ordF_true]
      have e : idxF (fun x => x.kind == k) (y :: l) 0 = 0 := by simp only [idxF, hk, if_true]; rfl
      unfold ordP
      rw [e, decide_eq_false (by omega), Bool.false_or]
      have hk2 : (y.kind != k) = false := by simp only [bne, hk]; rfl
      simp only [Int.toNat_zero, List.drop_zero, List.any_cons, hk2, Bool.false_or]
      clear ih e
      induction l with
      | nil => rfl
      | cons z l ih2 =>
        have hz := h z (by simp)
        rw [List.all_cons, List.any_cons, hz, ih2 (fun w hw => h w (by
          rcases List.mem_cons.1 hw with rfl | hw
          · simp
          · simp [hw]))]
        simp only [bne]
        cases (z.kind == k) <;> simp
    | false =>
      rw [if_neg (by decide), if_neg (by decide), ih]
      have e : idxF (fun x => x.kind == k) (y :: l) 0 = idxF (fun x => x.kind == k) l 1 := by simp only [idxF, hk]; rfl
      unfold ordP
      rw [e, idxF_shift]
      rcases idxF_ge (fun x => x.kind == k) l 0 with h1 | h1
      · rw [h1]; rfl
      · obtain ⟨n, hn⟩ : ∃ n : Nat, idxF (fun x => x.kind == k) l 0 = n := ⟨_, (Int.toNat_of_nonneg h1).symm⟩
        rw [hn, if_neg (by omega), decide_eq_false (by omega), decide_eq_false (by omega)]
        have : ((n : Int) + 1).toNat = n + 1 := by omega
        rw [this, List.drop_succ_cons]
        rfl
theorem okL_mem {r : Nd → Bool} : ∀ {L : List Nd}, okL [] r L = true → ∀ y ∈ L, r y = true
  | [], _, y, h => by cases h
  | z :: L, h, y, hy => by
    simp only [okL, Bool.and_eq_true] at h
    rcases List.mem_cons.1 hy with rfl | hy
    · exact h.1
    · exact okL_mem h.2 y hy
theorem and_congr_l {a b c : Bool} (h : a = true → b = c) : (a && b) = (a && c) := by
  cases a with
  | false => rfl
  | true => rw [h rfl]
theorem kk_mod (x : Nd) (hk : x.kind = 1) : (!decide ((x.kids.length : Int) < ([] : List (Nd → Bool)).length + (0 : Nat)) && (okL [] ((some fun x => (x.kind == 2) || (x.kind == 3)).getD fun _ => false) x.kids && moreP x)) = (!decide ((x.kids.length : Int) < ([] : List UInt8).length) && (okL [] (fun x => (x.kind == 2) || (x.kind == 3)) x.kids && more2R x)) := by
  have m1 : moreP x = ordP x.kids 3 := by simp [moreP, hk]
  have m2 : more2R x = ordF false x.kids := by simp [more2R, hk]
  rw [m1, m2, Option.getD_some]
  congr 1
  refine and_congr_l fun h => (ord_eq 3 x.kids fun y hy => ?_).symm
  have := okL_mem h y hy
  simp only [Bool.or_eq_true, beq_iff_eq] at this
  rcases this with e | e <;> rw [e] <;> rfl
theorem exp_late {y : Nd} (h : isExpR y = true) : (y.kind == 3 || y.kind == 32) = false := by
  unfold isExpR at h
  simp only [Bool.and_eq_true, decide_eq_true_eq, bne_iff_ne] at h
  simp only [Bool.or_eq_false_iff, beq_eq_false_iff_ne]
  omega
theorem kk_call (x : Nd) (hk : x.kind = 31) : (!decide ((x.kids.length : Int) < ([isExpR, isW [[], [63]]] : List (Nd → Bool)).length + (0 : Nat)) && (okL [isExpR, isW [[], [63]]] ((some fun x => isExpR x || (x.kind == 32)).getD fun _ => false) x.kids && moreP x)) = (!decide ((x.kids.length : Int) < ([101, 113] : List UInt8).length) && (okL [isExpR, isW [[], [63]]] (fun x => isExpR x || (x.kind == 32)) x.kids && more2R x)) := by
  have m1 : moreP x = ordP (x.kids.drop 2) 32 := by simp [moreP, hk]
  have m2 : more2R x = ordF false x.kids := by simp [more2R, hk]
  rw [m1, m2, Option.getD_some]
  congr 1
  refine and_congr_l fun h => ?_
  match hl : x.kids with
  | [] => rfl
  | [a] =>
    rw [hl] at h
    simp only [okL, Bool.and_true] at h
    rw [ordF, exp_late h]
    rfl
  | a :: b :: L =>
    rw [hl] at h
    simp only [okL, Bool.and_eq_true] at h
    obtain ⟨h1, h2, h3⟩ := h
    have hb : (b.kind == 3 || b.kind == 32) = false := by
      unfold isW at h2
      simp only [Bool.and_eq_true, beq_iff_eq] at h2
      rw [h2.1]; rfl
    rw [ordF, exp_late h1, if_neg (by decide), if_neg (by decide), ordF, hb, if_neg (by decide), if_neg (by decide)]
    refine (ord_eq 32 L fun y hy => ?_).symm
    have := okL_mem h3 y hy
    cases he : isExpR y with
    | false =>
      rw [he, Bool.false_or] at this
      rw [this]; simp
    | true =>
      have := exp_late he
      rw [Bool.or_eq_false_iff] at this
      rw [this.1, Bool.false_or]
theorem eq1 (x : Nd) (hk : x.kind = 1) : oneP x = nodeR x := by
  refine one_node 1 hk (by decide) (by decide) _ _ _ _ rfl [] 117 rfl (by show _ = _; simp [rowT, textR, hk, idK]) ?_
  rw [show ([] : List UInt8).map (fun c (y : Nd) => fitsR y c.toNat) = [] from by simp only [List.map_cons, List.map_nil, id], m_u]
  exact kk_mod x hk
theorem eq2 (x : Nd) (hk : x.kind = 2) : oneP x = nodeR x := one_simple 2 hk (by decide) (by decide) _ _ _ rfl [69] 0 rfl (txt2 x hk) (by simp only [List.map_cons, List.map_nil, f_E]) m_0 (by simp [moreP, more2R, hk])
theorem eq3 (x : Nd) (hk : x.kind = 3) : oneP x = nodeR x := one_simple 3 hk (by decide) (by decide) _ _ _ rfl [107, 99, 66, 84] 109 rfl (by show _ = _; simp [rowT, textR, hk, idK]) (by simp only [List.map_cons, List.map_nil, f_B, f_T, f_c, f_k]) m_m (more3 x hk)
theorem eq4 (x : Nd) (hk : x.kind = 4) : oneP x = nodeR x := one_simple 4 hk (by decide) (by decide) _ _ _ rfl [] 0 rfl (by show _ = _; simp [rowT, textR, hk, idK]) (rfl) m_0 (by simp [moreP, more2R, hk])
theorem eq5 (x : Nd) (hk : x.kind = 5) : oneP x = nodeR x := one_simple 5 hk (by decide) (by decide) _ _ _ rfl [] 0 rfl (by show _ = _; simp [rowT, textR, hk, idK]) (rfl) m_0 (by simp [moreP, more2R, hk])
theorem eq6 (x : Nd) (hk : x.kind = 6) : oneP x = nodeR x := one_simple 6 hk (by decide) (by decide) _ _ _ rfl [] 98 rfl (by show _ = _; simp [rowT, textR, hk, idK]) (rfl) m_b (by simp [moreP, more2R, hk])
theorem eq7 (x : Nd) (hk : x.kind = 7) : oneP x = nodeR x := one_simple 7 hk (by decide) (by decide) _ _ _ rfl [84] 0 rfl (by show _ = _; simp [rowT, textR, hk, idK]) (by simp only [List.map_cons, List.map_nil, f_T]) m_0 (by simp [moreP, more2R, hk])
theorem eq8 (x : Nd) (hk : x.kind = 8) : oneP x = nodeR x := one_simple 8 hk (by decide) (by decide) _ _ _ rfl [118, 116, 69] 0 rfl (by show _ = _; simp [rowT, textR, hk, idK]) (by simp only [List.map_cons, List.map_nil, f_E, f_t, f_v]) m_0 (by simp [moreP, more2R, hk])
theorem eq9 (x : Nd) (hk : x.kind = 9) : oneP x = nodeR x := one_simple 9 hk (by decide) (by decide) _ _ _ rfl [110, 99, 66, 80, 84, 113, 69] 0 rfl (by show _ = _; simp [rowT, textR, hk, idK]) (by simp only [List.map_cons, List.map_nil, f_B, f_E, f_P, f_T, f_c, f_n, f_q]) m_0 (by simp [moreP, more2R, hk])
theorem eq10 (x : Nd) (hk : x.kind = 10) : oneP x = nodeR x := one_simple 10 hk (by decide) (by decide) _ _ _ rfl [] 112 rfl (by show _ = _; simp [rowT, textR, hk, idK]) (rfl) m_p (by simp [moreP, more2R, hk])
theorem eq11 (x : Nd) (hk : x.kind = 11) : oneP x = nodeR x := one_simple 11 hk (by decide) (by decide) _ _ _ rfl [116, 69] 0 rfl (by show _ = _; simp [rowT, textR, hk, idK]) (by simp only [List.map_cons, List.map_nil, f_E, f_t]) m_0 (by simp [moreP, more2R, hk])
theorem eq12 (x : Nd) (hk : x.kind = 12) : oneP x = nodeR x := one_simple 12 hk (by decide) (by decide) _ _ _ rfl [103, 119] 116 rfl (txt12 x hk) (by simp only [List.map_cons, List.map_nil, f_g, f_w]) m_t (by simp [moreP, more2R, hk])
theorem eq13 (x : Nd) (hk : x.kind = 13) : oneP x = nodeR x := by
  refine one_node 13 hk (by decide) (by decide) _ _ _ _ rfl [116, 116] 116 rfl (by show _ = _; simp [rowT, textR, hk, idK]) ?_
  rw [show ([116, 116] : List UInt8).map (fun c (y : Nd) => fitsR y c.toNat) = [isTypR, isTypR] from by simp only [List.map_cons, List.map_nil, f_t], m_t]
  exact kk_rep _ _ (by simp [moreP, more2R, hk])
theorem eq14 (x : Nd) (hk : x.kind = 14) : oneP x = nodeR x := by
  refine one_node 14 hk (by decide) (by decide) _ _ _ _ rfl [116, 116] 116 rfl (by show _ = _; simp [rowT, textR, hk, idK]) ?_
  rw [show ([116, 116] : List UInt8).map (fun c (y : Nd) => fitsR y c.toNat) = [isTypR, isTypR] from by simp only [List.map_cons, List.map_nil, f_t], m_t]
  exact kk_rep _ _ (by simp [moreP, more2R, hk])
theorem eq15 (x : Nd) (hk : x.kind = 15) : oneP x = nodeR x := by
  refine one_node 15 hk (by decide) (by decide) _ _ _ _ rfl [116, 116] 116 rfl (by show _ = _; simp [rowT, textR, hk, idK]) ?_
  rw [show ([116, 116] : List UInt8).map (fun c (y : Nd) => fitsR y c.toNat) = [isTypR, isTypR] from by simp only [List.map_cons, List.map_nil, f_t], m_t]
  exact kk_rep _ _ (by simp [moreP, more2R, hk])
theorem eq16 (x : Nd) (hk : x.kind = 16) : oneP x = nodeR x := one_simple 16 hk (by decide) (by decide) _ _ _ rfl [116, 116] 0 rfl (by show _ = _; simp [rowT, textR, hk, idK]) (by simp only [List.map_cons, List.map_nil, f_t]) m_0 (by simp [moreP, more2R, hk])
theorem eq17 (x : Nd) (hk : x.kind = 17) : oneP x = nodeR x := one_simple 17 hk (by decide) (by decide) _ _ _ rfl [] 0 rfl (by show _ = _; simp [rowT, textR, hk, idK]) (rfl) m_0 (by simp [moreP, more2R, hk])
theorem eq18 (x : Nd) (hk : x.kind = 18) : oneP x = nodeR x := one_simple 18 hk (by decide) (by decide) _ _ _ rfl [99, 119, 113, 84] 116 rfl (by show _ = _; simp [rowT, textR, hk, idK]) (by simp only [List.map_cons, List.map_nil, f_T, f_c, f_q, f_w]) m_t (by simp [moreP, more2R, hk])
theorem eq19 (x : Nd) (hk : x.kind = 19) : oneP x = nodeR x := one_simple 19 hk (by decide) (by decide) _ _ _ rfl [] 0 rfl (by show _ = _; simp [rowT, textR, hk, idK]) (rfl) m_0 (by simp [moreP, more2R, hk])
theorem eq20 (x : Nd) (hk : x.kind = 20) : oneP x = nodeR x := one_simple 20 hk (by decide) (by decide) _ _ _ rfl [] 0 rfl (by show _ = _; simp [rowT, textR, hk, idK]) (rfl) m_0 (by simp [moreP, more2R, hk])
theorem eq21 (x : Nd) (hk : x.kind = 21) : oneP x = nodeR x := one_simple 21 hk (by decide) (by decide) _ _ _ rfl [] 0 rfl (by show _ = _; simp [rowT, textR, hk, idK]) (rfl) m_0 (by simp [moreP, more2R, hk])
theorem eq22 (x : Nd) (hk : x.kind = 22) : oneP x = nodeR x := one_simple 22 hk (by decide) (by decide) _ _ _ rfl [] 0 rfl (txt22 x hk) (rfl) m_0 (by simp [moreP, more2R, hk])
theorem eq23 (x : Nd) (hk : x.kind = 23) : oneP x = nodeR x := one_simple 23 hk (by decide) (by decide) _ _ _ rfl [] 0 rfl (by show _ = _; simp [rowT, textR, hk, idK]) (rfl) m_0 (by simp [moreP, more2R, hk])
theorem eq24 (x : Nd) (hk : x.kind = 24) : oneP x = nodeR x := one_simple 24 hk (by decide) (by decide) _ _ _ rfl [] 0 rfl (by show _ = _; simp [rowT, textR, hk, idK]) (rfl) m_0 (by simp [moreP, more2R, hk])
theorem eq25 (x : Nd) (hk : x.kind = 25) : oneP x = nodeR x := by
  refine one_node 25 hk (by decide) (by decide) _ _ _ _ rfl [101, 101] 101 rfl (by show _ = _; simp [rowT, textR, hk, idK]) ?_
  rw [show ([101, 101] : List UInt8).map (fun c (y : Nd) => fitsR y c.toNat) = [isExpR, isExpR] from by simp only [List.map_cons, List.map_nil, f_e], m_e]
  exact kk_seq x hk
theorem eq26 (x : Nd) (hk : x.kind = 26) : oneP x = nodeR x := one_simple 26 hk (by decide) (by decide) _ _ _ rfl [118, 116] 0 rfl (by show _ = _; simp [rowT, textR, hk, idK]) (by simp only [List.map_cons, List.map_nil, f_t, f_v]) m_0 (by simp [moreP, more2R, hk])
theorem eq27 (x : Nd) (hk : x.kind = 27) : oneP x = nodeR x := by
  refine one_node 27 hk (by decide) (by decide) _ _ _ _ rfl [101, 101] 0 rfl (by show _ = _; simp [rowT, textR, hk, idK]) ?_
  rw [show ([101, 101] : List UInt8).map (fun c (y : Nd) => fitsR y c.toNat) = [isExpR, isExpR] from by simp only [List.map_cons, List.map_nil, f_e], m_0]
  exact kk_asg x hk
theorem eq28 (x : Nd) (hk : x.kind = 28) : oneP x = nodeR x := one_simple 28 hk (by decide) (by decide) _ _ _ rfl [101] 0 rfl (by show _ = _; simp [rowT, textR, hk, idK]) (by simp only [List.map_cons, List.map_nil, f_e]) m_0 (by simp [moreP, more2R, hk])
theorem eq29 (x : Nd) (hk : x.kind = 29) : oneP x = nodeR x := one_simple 29 hk (by decide) (by decide) _ _ _ rfl [101] 0 rfl (by show _ = _; simp [rowT, textR, hk, idK]) (by simp only [List.map_cons, List.map_nil, f_e]) m_0 (by simp [moreP, more2R, hk])
theorem eq30 (x : Nd) (hk : x.kind = 30) : oneP x = nodeR x := one_simple 30 hk (by decide) (by decide) _ _ _ rfl [101] 0 rfl (by show _ = _; simp [rowT, textR, hk, idK]) (by simp only [List.map_cons, List.map_nil, f_e]) m_0 (by simp [moreP, more2R, hk])
theorem eq31 (x : Nd) (hk : x.kind = 31) : oneP x = nodeR x := by
  refine one_node 31 hk (by decide) (by decide) _ _ _ _ rfl [101, 113] 97 rfl (by show _ = _; simp [rowT, textR, hk, idK]) ?_
  rw [show ([101, 113] : List UInt8).map (fun c (y : Nd) => fitsR y c.toNat) = [isExpR, isW [[], [63]]] from by simp only [List.map_cons, List.map_nil, f_e, f_q], m_a]
  exact kk_call x hk
theorem eq32 (x : Nd) (hk : x.kind = 32) : oneP x = nodeR x := one_simple 32 hk (by decide) (by decide) _ _ _ rfl [101] 0 rfl (by show _ = _; simp [rowT, textR, hk, idK]) (by simp only [List.map_cons, List.map_nil, f_e]) m_0 (by simp [moreP, more2R, hk])
theorem eq33 (x : Nd) (hk : x.kind = 33) : oneP x = nodeR x := by
  refine one_node 33 hk (by decide) (by decide) _ _ _ _ rfl [101, 116] 116 rfl (by show _ = _; simp [rowT, textR, hk, idK]) ?_
  rw [show ([101, 116] : List UInt8).map (fun c (y : Nd) => fitsR y c.toNat) = [isExpR, isTypR] from by simp only [List.map_cons, List.map_nil, f_e, f_t], m_t]
  exact kk_qual x (by simp [moreP, more2R, hk])
theorem eq34 (x : Nd) (hk : x.kind = 34) : oneP x = nodeR x := by
  refine one_node 34 hk (by decide) (by decide) _ _ _ _ rfl [101, 101] 101 rfl (by show _ = _; simp [rowT, textR, hk, idK]) ?_
  rw [show ([101, 101] : List UInt8).map (fun c (y : Nd) => fitsR y c.toNat) = [isExpR, isExpR] from by simp only [List.map_cons, List.map_nil, f_e], m_e]
  exact kk_rep _ _ (by simp [moreP, more2R, hk])
theorem eq35 (x : Nd) (hk : x.kind = 35) : oneP x = nodeR x := one_simple 35 hk (by decide) (by decide) _ _ _ rfl [116] 101 rfl (by show _ = _; simp [rowT, textR, hk, idK]) (by simp only [List.map_cons, List.map_nil, f_t]) m_e (by simp [moreP, more2R, hk])
theorem eq36 (x : Nd) (hk : x.kind = 36) : oneP x = nodeR x := one_simple 36 hk (by decide) (by decide) _ _ _ rfl [101] 0 rfl (txt36 x hk) (by simp only [List.map_cons, List.map_nil, f_e]) m_0 (by simp [moreP, more2R, hk])
theorem eq37 (x : Nd) (hk : x.kind = 37) : oneP x = nodeR x := one_simple 37 hk (by decide) (by decide) _ _ _ rfl [101, 101] 0 rfl (txt37 x hk) (by simp only [List.map_cons, List.map_nil, f_e]) m_0 (by simp [moreP, more2R, hk])
theorem eq38 (x : Nd) (hk : x.kind = 38) : oneP x = nodeR x := one_simple 38 hk (by decide) (by decide) _ _ _ rfl [101, 116] 0 rfl (by show _ = _; simp [rowT, textR, hk, idK]) (by simp only [List.map_cons, List.map_nil, f_e, f_t]) m_0 (by simp [moreP, more2R, hk])
theorem eq39 (x : Nd) (hk : x.kind = 39) : oneP x = nodeR x := one_simple 39 hk (by decide) (by decide) _ _ _ rfl [101] 0 rfl (by show _ = _; simp [rowT, textR, hk, idK]) (by simp only [List.map_cons, List.map_nil, f_e]) m_0 (by simp [moreP, more2R, hk])
theorem eq40 (x : Nd) (hk : x.kind = 40) : oneP x = nodeR x := one_simple 40 hk (by decide) (by decide) _ _ _ rfl [99, 101] 0 rfl (by show _ = _; simp [rowT, textR, hk, idK]) (by simp only [List.map_cons, List.map_nil, f_c, f_e]) m_0 (by simp [moreP, more2R, hk])
theorem eq41 (x : Nd) (hk : x.kind = 41) : oneP x = nodeR x := one_simple 41 hk (by decide) (by decide) _ _ _ rfl [101, 101, 69] 0 rfl (by show _ = _; simp [rowT, textR, hk, idK]) (by simp only [List.map_cons, List.map_nil, f_E, f_e]) m_0 (by simp [moreP, more2R, hk])
theorem eq42 (x : Nd) (hk : x.kind = 42) : oneP x = nodeR x := one_simple 42 hk (by decide) (by decide) _ _ _ rfl [101, 101, 69] 0 rfl (by show _ = _; simp [rowT, textR, hk, idK]) (by simp only [List.map_cons, List.map_nil, f_E, f_e]) m_0 (by simp [moreP, more2R, hk])
theorem eq43 (x : Nd) (hk : x.kind = 43) : oneP x = nodeR x := one_simple 43 hk (by decide) (by decide) _ _ _ rfl [101, 101, 69] 0 rfl (by show _ = _; simp [rowT, textR, hk, idK]) (by simp only [List.map_cons, List.map_nil, f_E, f_e]) m_0 (by simp [moreP, more2R, hk])
theorem eq44 (x : Nd) (hk : x.kind = 44) : oneP x = nodeR x := one_simple 44 hk (by decide) (by decide) _ _ _ rfl [101, 101] 0 rfl (by show _ = _; simp [rowT, textR, hk, idK]) (by simp only [List.map_cons, List.map_nil, f_e]) m_0 (by simp [moreP, more2R, hk])
theorem eq45 (x : Nd) (hk : x.kind = 45) : oneP x = nodeR x := one_simple 45 hk (by decide) (by decide) _ _ _ rfl [116, 101, 101, 69] 0 rfl (by show _ = _; simp [rowT, textR, hk, idK]) (by simp only [List.map_cons, List.map_nil, f_E, f_e, f_t]) m_0 (by simp [moreP, more2R, hk])
theorem eq46 (x : Nd) (hk : x.kind = 46) : oneP x = nodeR x := one_simple 46 hk (by decide) (by decide) _ _ _ rfl [116, 101, 101] 0 rfl (by show _ = _; simp [rowT, textR, hk, idK]) (by simp only [List.map_cons, List.map_nil, f_e, f_t]) m_0 (by simp [moreP, more2R, hk])
theorem eq47 (x : Nd) (hk : x.kind = 47) : oneP x = nodeR x := by
  refine one_node 47 hk (by decide) (by decide) _ _ _ _ rfl [101, 69] 120 rfl (by show _ = _; simp [rowT, textR, hk, idK]) ?_
  rw [show ([101, 69] : List UInt8).map (fun c (y : Nd) => fitsR y c.toNat) = [isExpR, orN isExpR] from by simp only [List.map_cons, List.map_nil, f_E, f_e], m_x]
  exact kk_match x hk
theorem eq48 (x : Nd) (hk : x.kind = 48) : oneP x = nodeR x := one_simple 48 hk (by decide) (by decide) _ _ _ rfl [101, 69, 101] 0 rfl (by show _ = _; simp [rowT, textR, hk, idK]) (by simp only [List.map_cons, List.map_nil, f_E, f_e]) m_0 (by simp [moreP, more2R, hk])
theorem eq49 (x : Nd) (hk : x.kind = 49) : oneP x = nodeR x := one_simple 49 hk (by decide) (by decide) _ _ _ rfl [101, 69, 69] 0 rfl (by show _ = _; simp [rowT, textR, hk, idK]) (by simp only [List.map_cons, List.map_nil, f_E, f_e]) m_0 (by simp [moreP, more2R, hk])
theorem eq50 (x : Nd) (hk : x.kind = 50) : oneP x = nodeR x := one_simple 50 hk (by decide) (by decide) _ _ _ rfl [] 0 rfl (by show _ = _; simp [rowT, textR, hk, idK]) (rfl) m_0 (by simp [moreP, more2R, hk])
theorem eq51 (x : Nd) (hk : x.kind = 51) : oneP x = nodeR x := one_simple 51 hk (by decide) (by decide) _ _ _ rfl [69] 0 rfl (by show _ = _; simp [rowT, textR, hk, idK]) (by simp only [List.map_cons, List.map_nil, f_E]) m_0 (by simp [moreP, more2R, hk])
theorem eq52 (x : Nd) (hk : x.kind = 52) : oneP x = nodeR x := one_simple 52 hk (by decide) (by decide) _ _ _ rfl [] 0 rfl (by show _ = _; simp [rowT, textR, hk, idK]) (rfl) m_0 (by simp [moreP, more2R, hk])
theorem eq53 (x : Nd) (hk : x.kind = 53) : oneP x = nodeR x := one_simple 53 hk (by decide) (by decide) _ _ _ rfl [] 0 rfl (by show _ = _; simp [rowT, textR, hk, idK]) (rfl) m_0 (by simp [moreP, more2R, hk])
theorem eq54 (x : Nd) (hk : x.kind = 54) : oneP x = nodeR x := one_simple 54 hk (by decide) (by decide) _ _ _ rfl [99, 84] 109 rfl (by show _ = _; simp [rowT, textR, hk, idK]) (by simp only [List.map_cons, List.map_nil, f_T, f_c]) m_m (by simp [moreP, more2R, hk])
theorem eq55 (x : Nd) (hk : x.kind = 55) : oneP x = nodeR x := one_simple 55 hk (by decide) (by decide) _ _ _ rfl [99, 80, 84, 113, 101] 121 rfl (by show _ = _; simp [rowT, textR, hk, idK]) (by simp only [List.map_cons, List.map_nil, f_P, f_T, f_c, f_e, f_q]) m_y (by simp [moreP, more2R, hk])
theorem eq56 (x : Nd) (hk : x.kind = 56) : oneP x = nodeR x := one_simple 56 hk (by decide) (by decide) _ _ _ rfl [116, 101] 0 rfl (by show _ = _; simp [rowT, textR, hk, idK]) (by simp only [List.map_cons, List.map_nil, f_e, f_t]) m_0 (by simp [moreP, more2R, hk])
theorem one_eq (x : Nd) : oneP x = nodeR x := by
  by_cases h1 : x.kind < 1
  · unfold oneP nodeR; rw [if_pos h1, if_pos h1]
  by_cases h2 : (56 : Int) < x.kind
  · unfold oneP nodeR; rw [if_neg h1, if_neg h1, if_pos h2, if_pos h2]
  have : x.kind = 1 ∨ x.kind = 2 ∨ x.kind = 3 ∨ x.kind = 4 ∨ x.kind = 5 ∨ x.kind = 6 ∨ x.kind = 7 ∨ x.kind = 8 ∨ x.kind = 9 ∨ x.kind = 10 ∨ x.kind = 11 ∨ x.kind = 12 ∨ x.kind = 13 ∨ x.kind = 14 ∨ x.kind = 15 ∨ x.kind = 16 ∨ x.kind = 17 ∨ x.kind = 18 ∨ x.kind = 19 ∨ x.kind = 20 ∨ x.kind = 21 ∨ x.kind = 22 ∨ x.kind = 23 ∨ x.kind = 24 ∨ x.kind = 25 ∨ x.kind = 26 ∨ x.kind = 27 ∨ x.kind = 28 ∨ x.kind = 29 ∨ x.kind = 30 ∨ x.kind = 31 ∨ x.kind = 32 ∨ x.kind = 33 ∨ x.kind = 34 ∨ x.kind = 35 ∨ x.kind = 36 ∨ x.kind = 37 ∨ x.kind = 38 ∨ x.kind = 39 ∨ x.kind = 40 ∨ x.kind = 41 ∨ x.kind = 42 ∨ x.kind = 43 ∨ x.kind = 44 ∨ x.kind = 45 ∨ x.kind = 46 ∨ x.kind = 47 ∨ x.kind = 48 ∨ x.kind = 49 ∨ x.kind = 50 ∨ x.kind = 51 ∨ x.kind = 52 ∨ x.kind = 53 ∨ x.kind = 54 ∨ x.kind = 55 ∨ x.kind = 56 := by omega
  rcases this with h | h | h | h | h | h | h | h | h | h | h | h | h | h | h | h | h | h | h | h | h | h | h | h | h | h | h | h | h | h | h | h | h | h | h | h | h | h | h | h | h | h | h | h | h | h | h | h | h | h | h | h | h | h | h | h
  · exact eq1 x h
  · exact eq2 x h
  · exact eq3 x h
  · exact eq4 x h
  · exact eq5 x h
  · exact eq6 x h
  · exact eq7 x h
  · exact eq8 x h
  · exact eq9 x h
  · exact eq10 x h
  · exact eq11 x h
  · exact eq12 x h
  · exact eq13 x h
  · exact eq14 x h
  · exact eq15 x h
  · exact eq16 x h
  · exact eq17 x h
  · exact eq18 x h
  · exact eq19 x h
  · exact eq20 x h
  · exact eq21 x h
  · exact eq22 x h
  · exact eq23 x h
  · exact eq24 x h
  · exact eq25 x h
  · exact eq26 x h
  · exact eq27 x h
  · exact eq28 x h
  · exact eq29 x h
  · exact eq30 x h
  · exact eq31 x h
  · exact eq32 x h
  · exact eq33 x h
  · exact eq34 x h
  · exact eq35 x h
  · exact eq36 x h
  · exact eq37 x h
  · exact eq38 x h
  · exact eq39 x h
  · exact eq40 x h
  · exact eq41 x h
  · exact eq42 x h
  · exact eq43 x h
  · exact eq44 x h
  · exact eq45 x h
  · exact eq46 x h
  · exact eq47 x h
  · exact eq48 x h
  · exact eq49 x h
  · exact eq50 x h
  · exact eq51 x h
  · exact eq52 x h
  · exact eq53 x h
  · exact eq54 x h
  · exact eq55 x h
  · exact eq56 x h
theorem chk_eq (x : Nd) : chkV oneP x = chkV nodeR x := by
  have : oneP = nodeR := funext one_eq
  rw [this]
end Go.Ev
