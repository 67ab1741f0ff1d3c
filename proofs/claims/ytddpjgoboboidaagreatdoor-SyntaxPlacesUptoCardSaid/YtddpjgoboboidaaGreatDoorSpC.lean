/- What the looks return, for every node. -/
import Derived.Test.YtddpjgoboboidaaGreatDoorEvRows
namespace Go.Ev
open Go Go.Proofs
set_option maxRecDepth 100000
set_option linter.unusedSimpArgs false
set_option linter.unusedVariables false
theorem sp_cont {call : CallF} (hC : call.Sound Tryz.prog TT) (g : FuncId) (cs : List V) (hx0 : TT.ext g = none) (hcs : nlL cs = true) (l : List Nd) (hlen : l.length < 1100000) (hg : ∀ x ∈ l, ∃ b : Bool, ∀ H, call g (x.enc :: cs) H = .val (.b b) H) :
    ∃ g6 g4, SpecOK Tryz.prog TT 79 g6 ∧ SpecOK Tryz.prog TT 55 g4 ∧ (∃ i : Int, -1 ≤ i ∧ i < l.length ∧ ∀ H, g6 [.isl 3 (Nd.encL l), .fn g cs] H = .val (.i .i64 i) H) ∧ ∃ b : Bool, ∀ H, g4 [.isl 3 (Nd.encL l), .fn g cs] H = .val (.b b) H := by
  classical
  have hnl : nlL [.isl 3 (Nd.encL l), .fn g cs] = true := by simp [nlL, nl, Nd.encL_nl, hcs]
  obtain ⟨g6, hg6, hs6⟩ := spec_pure TT_ok TT_plain 79 (fun vs => vs = [.isl 3 (Nd.encL l), .fn g cs]) (fun _ r => ∃ i : Int, r = .val (.i .i64 i) ∧ -1 ≤ i ∧ i < l.length) (by
    rintro vs rfl
    refine ⟨hnl, by rintro r ⟨i, rfl, _⟩; rfl, ?_⟩
    refine (body_66 hC l g cs (fun x => if h : x ∈ l then (hg x h).choose else false) hx0 (fun x hx H => ?_) hlen).mono fun r ⟨i, h, _, h1, h2⟩ => ⟨i, h, h1, h2⟩
    simp only [dif_pos hx]
    exact (hg x hx).choose_spec H)
  obtain ⟨r, ⟨i, rfl, h1, h2⟩, hi⟩ := hs6 _ rfl
  obtain ⟨g4, hg4, hs4⟩ := spec_bool TT_ok TT_plain 55 (fun _ : Unit => [.isl 3 (Nd.encL l), .fn g cs]) (fun _ => True) (fun _ _ => hnl) (fun _ _ => (body_41 (ws n0 hg6) (Nd.encL l) i _ rfl g cs fun H => by rw [w_here]; exact hi H).bool)
  exact ⟨g6, g4, hg6, hg4, ⟨i, h1, h2, hi⟩, hs4 () trivial⟩
theorem sp38 : ∃ g, SpecOK Tryz.prog TT 52 g ∧ ∀ x : Nd, x.num < NT → ∃ b : Bool, ∀ H, g [x.enc] H = .val (.b b) H := by
  obtain ⟨g, hg, hs⟩ := spec_rec TT_ok TT_plain 52 (fun k vs => ∃ x : Nd, x.num = k ∧ x.num < NT ∧ vs = [x.enc]) (fun _ r => ∃ b : Bool, r = .val (.b b)) (by
    rintro k vs ⟨x, rfl, hx, rfl⟩
    refine ⟨by simp [nlL, Nd.enc_nl], by rintro r ⟨b, rfl⟩; rfl, fun g hg hrec => ?_⟩
    have hnum := x.num_eq
    have hlen := Nd.numL_length x.kids
    have hN : NT = 1090000 := rfl
    have hkid : ∀ y ∈ x.kids, ∃ b : Bool, ∀ H, g [y.enc] H = .val (.b b) H := fun y hy => by
      have := Nd.num_mem hy
      obtain ⟨r, ⟨b, rfl⟩, h⟩ := hrec y.num (by omega) [y.enc] ⟨y, rfl, by omega, rfl⟩
      exact ⟨b, h⟩
    obtain ⟨g64, hg64, hs64⟩ := spec_bool TT_ok TT_plain 77 (fun y : Nd => [y.enc]) (fun y => y ∈ x.kids) (fun y _ => by simp [nlL, Nd.enc_nl]) (fun y hy => by
      obtain ⟨b, hb⟩ := hkid y hy
      exact (body_64 (ws n0 hg) y b fun H => by rw [w_here]; exact hb H).bool)
    obtain ⟨_, g4, _, hg4, _, b, hb⟩ := sp_cont (ws n0 hg64) 77 [] rfl rfl x.kids (by omega) (fun y hy => by
      obtain ⟨b, hb⟩ := hs64 y hy
      exact ⟨b, fun H => by rw [w_here]; exact hb H⟩)
    exact body_38 (ws n0 hg4) x b fun H => by rw [w_here]; exact hb H) NT
  refine ⟨g, hg, fun x hx => ?_⟩
  obtain ⟨r, ⟨b, rfl⟩, h⟩ := hs x.num hx [x.enc] ⟨x, rfl, hx, rfl⟩
  exact ⟨b, h⟩
/-- What is known of all predicates. -/
structure Preds (call : CallF) : Prop where
  sound : call.Sound Tryz.prog TT
  text : ∀ tf tc, TP tf tc → TT.ext tf = none ∧ ∀ s : List UInt8, s.length < NT → ∃ b : Bool, ∀ H, call tf (.s s :: tc) H = .val (.b b) H
  node : ∀ v, NP v → ∃ f c, v = .fn f c ∧ TT.ext f = none ∧ ∀ x : Nd, x.num < NT → ∃ b : Bool, ∀ H, call f (x.enc :: c) H = .val (.b b) H
theorem preds : ∃ call, Preds call := by
  obtain ⟨g23, k23, s23⟩ := sp23
  obtain ⟨g24, k24, s24⟩ := sp24
  obtain ⟨g29, k29, s29⟩ := sp29
  obtain ⟨g32, k32, s32⟩ := sp32
  obtain ⟨g37, k37, s37⟩ := sp37
  obtain ⟨g38, k38, s38⟩ := sp38
  obtain ⟨g39, k39, s39⟩ := sp39
  obtain ⟨g58, k58, s58⟩ := sp58
  obtain ⟨g48, k48, s48⟩ := sp48
  obtain ⟨g53, k53, s53⟩ := sp53
  obtain ⟨g28, k28, s28⟩ := sp28
  obtain ⟨g26, k26, s26⟩ := sp26
  obtain ⟨g33, k33, s33⟩ := sp33
  obtain ⟨g34, k34, s34⟩ := sp34
  obtain ⟨g35, k35, s35⟩ := sp35
  obtain ⟨g54, k54, s54⟩ := sp54
  obtain ⟨g63, k63, s63⟩ := sp63
  refine ⟨((((((((((((((((CallF.none.with 18 g23).with 20 g24).with 44 g29).with 22 g32).with 51 g37).with 52 g38).with 53 g39).with 71 g58).with 61 g48).with 66 g53).with 43 g28).with 41 g26).with 47 g33).with 48 g34).with 49 g35).with 67 g54).with 76 g63, ?_, ?_, ?_⟩
  · exact ws (ws (ws (ws (ws (ws (ws (ws (ws (ws (ws (ws (ws (ws (ws (ws (ws n0 k23) k24) k29) k32) k37) k38) k39) k58) k48) k53) k28) k26) k33) k34) k35) k54) k63
  · intro tf tc h
    cases h with
    | empty => exact ⟨rfl, fun s hs => s28 s hs⟩
    | ident => exact ⟨rfl, fun s hs => s26 s⟩
    | valid => exact ⟨rfl, fun s hs => s33 s hs⟩
    | integer => exact ⟨rfl, fun s hs => s34 s hs⟩
    | float => exact ⟨rfl, fun s hs => s35 s hs⟩
    | path c k => exact ⟨rfl, fun s hs => s54 s c k hs⟩
    | among l h => exact ⟨rfl, fun s hs => s63 (s, l) (Nat.lt_trans h (by decide))⟩
  · intro v h
    cases h with
    | p23 => exact ⟨_, _, rfl, rfl, fun x _ => s23 x⟩
    | p24 => exact ⟨_, _, rfl, rfl, fun x _ => s24 x⟩
    | p29 => exact ⟨_, _, rfl, rfl, fun x _ => s29 x⟩
    | p32 => exact ⟨_, _, rfl, rfl, fun x _ => s32 x⟩
    | p37 => exact ⟨_, _, rfl, rfl, fun x _ => s37 x⟩
    | p38 => exact ⟨_, _, rfl, rfl, fun x h => s38 x h⟩
    | p39 => exact ⟨_, _, rfl, rfl, fun x _ => s39 x⟩
    | kind k => exact ⟨_, _, rfl, rfl, fun x _ => s58 (x, k)⟩
    | word l h => exact ⟨_, _, rfl, rfl, fun x _ => s48 (x, l) (Nat.lt_trans h (by decide))⟩
    | maybe23 => exact ⟨_, _, rfl, rfl, fun x _ => s53 x _ (.inl rfl)⟩
    | maybe24 => exact ⟨_, _, rfl, rfl, fun x _ => s53 x _ (.inr rfl)⟩
/-- ordered: of these nodes. -/
theorem sp78 : ∃ g, SpecOK Tryz.prog TT 96 g ∧ ∀ (l : List Nd) (k : Int), l.length < 1100000 → ∃ b : Bool, ∀ H, g [.isl 3 (Nd.encL l), .i .i64 k] H = .val (.b b) H := by
  obtain ⟨g6, k6, s6⟩ := spec_bool TT_ok TT_plain 121 (fun p : Nd × Int => [p.1.enc, .ipt 1 [.agg [.i .i64 p.2]] 0 0]) (fun _ => True) (fun x _ => by simp [nlL, nl, Nd.enc_nl]) (fun p _ => (body_96 n0 p.1 p.2).bool)
  obtain ⟨g7, k7, s7⟩ := spec_bool TT_ok TT_plain 122 (fun p : Nd × Int => [p.1.enc, .ipt 1 [.agg [.i .i64 p.2]] 0 0]) (fun _ => True) (fun x _ => by simp [nlL, nl, Nd.enc_nl]) (fun p _ => (body_97 n0 p.1 p.2).bool)
  obtain ⟨g, hg, hs⟩ := spec_bool TT_ok TT_plain 96 (fun p : List Nd × Int => [.isl 3 (Nd.encL p.1), .i .i64 p.2]) (fun p => p.1.length < 1100000) (fun x _ => by simp [nlL, nl, Nd.encL_nl]) (fun p hp => by
    obtain ⟨l, k⟩ := p
    have hnl : nlL [V.ipt 1 [.agg [.i .i64 k]] 0 0] = true := by simp [nlL, nl]
    obtain ⟨h6, _, o6, _, ⟨i, i1, i2, hi⟩, _⟩ := sp_cont (ws n0 k6) 121 [.ipt 1 [.agg [.i .i64 k]] 0 0] rfl hnl l hp (fun y _ => by
      obtain ⟨b, hb⟩ := s6 (y, k) trivial
      exact ⟨b, fun H => by rw [w_here]; exact hb H⟩)
    by_cases hneg : i = -1
    · subst hneg
      exact body_78a (ws n0 o6) l k fun H => by rw [w_here]; exact hi H
    · obtain ⟨n, rfl⟩ : ∃ n : Nat, i = n := ⟨i.toNat, by omega⟩
      obtain ⟨_, h4, _, o4, _, q, hq⟩ := sp_cont (ws n0 k7) 122 [.ipt 1 [.agg [.i .i64 k]] 0 0] rfl hnl (l.drop n) (by simp at hp ⊢; omega) (fun y _ => by
        obtain ⟨b, hb⟩ := s7 (y, k) trivial
        exact ⟨b, fun H => by rw [w_here]; exact hb H⟩)
      exact body_78b (ws (ws n0 o6) o4) l k n q (by omega) (by omega) (fun H => by rw [w_other _ _ _ _ rfl, w_here]; exact hi H) fun H => by rw [w_here]; exact hq H)
  exact ⟨g, hg, fun l k h => hs (l, k) h⟩
/-- more: of nodes that have as many kids as it asks for. -/
theorem sp65 : ∃ g, SpecOK Tryz.prog TT 78 g ∧ ∀ x : Nd, x.num < NT → (x.kind = 31 → 2 ≤ x.kids.length) → (x.kind = 3 → 4 ≤ x.kids.length) → ∃ b : Bool, ∀ H, g [.ipt 285 [.agg shCells] 0 0, x.enc] H = .val (.b b) H := by
  obtain ⟨g8, k8, s8⟩ := sp78
  obtain ⟨g, hg, hs⟩ := spec_bool TT_ok TT_plain 78 (fun x : Nd => [.ipt 285 [.agg shCells] 0 0, x.enc]) (fun x => x.num < NT ∧ (x.kind = 31 → 2 ≤ x.kids.length) ∧ (x.kind = 3 → 4 ≤ x.kids.length)) (fun x _ => by simp [nlL, nl, Nd.enc_nl, shCells_nl]) (fun x hx => by
    obtain ⟨hn, h31, h3⟩ := hx
    have hnum := x.num_eq
    have hlen := Nd.numL_length x.kids
    have hN : NT = 1090000 := rfl
    have hC := ws n0 k8
    by_cases e1 : x.kind = 1
    · obtain ⟨q, hq⟩ := s8 x.kids 3 (by omega)
      exact body_65m hC x e1 q fun H => by rw [w_here]; exact hq H
    by_cases e31 : x.kind = 31
    · obtain ⟨q, hq⟩ := s8 (x.kids.drop 2) 32 (by simp; omega)
      exact body_65c hC x e31 q (by have := h31 e31; omega) fun H => by rw [w_here]; exact hq H
    by_cases e3 : x.kind = 3
    · have h4 := h3 e3
      match hk : x.kids with
      | a :: b :: c :: d :: r => exact body_65e hC x a b c d r e3 hk (by omega) (by omega)
      | [] | [_] | [_, _] | [_, _, _] => rw [hk] at h4; simp at h4
    exact body_65o hC x e1 e31 e3)
  exact ⟨g, hg, fun x h1 h2 h3 => hs x ⟨h1, h2, h3⟩⟩
theorem sp40 : ∃ g, SpecOK Tryz.prog TT 54 g ∧ ∀ x : Nd, x.num < NT → x.text.length < NT → ∃ b : Bool, ∀ H, g [.ipt 285 [.agg shCells] 0 0, x.enc] H = .val (.b b) H := by
  obtain ⟨cp, hp⟩ := preds
  obtain ⟨g5, k5, s5⟩ := sp65
  have hC := ws hp.sound k5
  obtain ⟨g, hg, hs⟩ := spec_bool TT_ok TT_plain 54 (fun x : Nd => [.ipt 285 [.agg shCells] 0 0, x.enc]) (fun x => x.num < NT ∧ x.text.length < NT) (fun x _ => by simp [nlL, nl, Nd.enc_nl, shCells_nl]) (fun x hx => by
    obtain ⟨hn, htx⟩ := hx
    have hnum := x.num_eq
    have hlen := Nd.numL_length x.kids
    have hN : NT = 1090000 := rfl
    cases h1 : decide (x.kind < 1) with
    | true => exact body_40lo hC x h1
    | false =>
    cases h2 : decide ((56 : Int) < x.kind) with
    | true => exact body_40hi hC x h1 h2
    | false =>
    simp only [decide_eq_false_iff_not] at h1 h2
    obtain ⟨k, hk⟩ : ∃ k : Nat, x.kind = k := ⟨x.kind.toNat, by omega⟩
    rw [hk] at h1 h2
    obtain ⟨tf, tc, kl, rs, lst, c1, c2, c3, c4, htp, hnp, hrs, l0, l2, l7, q31, q3⟩ := row_at k (by omega) (by omega)
    obtain ⟨hx0, ht0⟩ := hp.text tf tc htp
    obtain ⟨b, ht⟩ := ht0 x.text htx
    have hne : (tf == 78) = false := by cases htp <;> rfl
    have ht' : ∀ H, (cp.with 78 g5) tf (.s x.text :: tc) H = .val (.b b) H := fun H => by rw [w_other _ _ _ _ hne]; exact ht H
    have wl : IntKind.i64.wrap (kl.length + lst) = kl.length + lst := wrap_i64 (by omega) (by omega)
    cases b with
    | false => exact body_40a hC x k hk h1 h2 (by omega) tf tc kl rs lst c1 c2 c3 c4 hx0 wl ht'
    | true =>
    by_cases hl : (x.kids.length : Int) < kl.length + lst
    · exact body_40b hC x k hk h1 h2 (by omega) tf tc kl rs lst c1 c2 c3 c4 hx0 wl ht' hl
    obtain ⟨q, hq⟩ := s5 x hn (fun e => by have := q31 (by omega); omega) (fun e => by have := q3 (by omega); omega)
    have hm : ∀ H, (cp.with 78 g5) 78 [.ipt 285 [.agg shCells] 0 0, x.enc] H = .val (.b q) H := fun H => by rw [w_here]; exact hq H
    have hpred : ∀ v, NP v → ∀ y, y ∈ x.kids → ∃ f c b, v = .fn f c ∧ TT.ext f = none ∧ ∀ H, (cp.with 78 g5) f (y.enc :: c) H = .val (.b b) H := fun v hv y hy => by
      obtain ⟨f, c, e, hf, hb⟩ := hp.node v hv
      have := Nd.num_mem hy
      obtain ⟨b, hb⟩ := hb y (by omega)
      have hne : (f == 78) = false := by subst e; cases hv <;> rfl
      exact ⟨f, c, b, e, hf, fun H => by rw [w_other _ _ _ _ hne]; exact hb H⟩
    have hkid : ∀ i y, x.kids[i]? = some y → (i < kl.length ∨ NP rs) → KidOK (cp.with 78 g5) kl rs i y := fun i y hy ho => by
      have hmem := List.mem_of_getElem? hy
      by_cases hi : i < kl.length
      · obtain ⟨f, c, b, e, hf, hb⟩ := hpred kl[i] (hnp _ (List.getElem_mem hi)) y hmem
        exact ⟨f, c, b, by rw [if_pos hi, List.getElem?_eq_getElem hi, e], hf, hb⟩
      · obtain ⟨f, c, b, e, hf, hb⟩ := hpred rs (ho.resolve_left hi) y hmem
        exact ⟨f, c, b, by rw [if_neg hi, e], hf, hb⟩
    rcases hrs with hr | hr
    · by_cases hl2 : (kl.length : Int) < x.kids.length
      · exact body_40c hC x k hk h1 h2 (by omega) tf tc kl rs lst c1 c2 c3 c4 hx0 wl hr ht' hl hl2
      · exact body_40d hC x k hk h1 h2 (by omega) tf tc kl rs lst c1 c2 c3 c4 hx0 wl hr hl2 q hm (fun i y hy => hkid i y hy (.inl (by
          have := (List.getElem?_eq_some_iff.1 hy).1; omega))) (by omega) ht' hl
    · obtain ⟨f, c, e, _⟩ := hp.node rs hr
      exact body_40e hC x k hk h1 h2 (by omega) tf tc kl rs lst c1 c2 c3 c4 hx0 wl f c e q hm (fun i y hy => hkid i y hy (.inr hr)) (by omega) ht' hl)
  exact ⟨g, hg, fun x h1 h2 => hs x ⟨h1, h2⟩⟩
end Go.Ev
