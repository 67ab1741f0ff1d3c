/- Check returns what some look at each node and the count say; parts of well-formed trees are well-formed. -/
import Derived.Test.YtddpjgoboboidaaGreatDoorLgW
import Derived.Test.YtddpjgoboboidaaGreatDoorSpC
namespace Go.Ev
open Go Go.Proofs
set_option maxRecDepth 100000
set_option linter.unusedSimpArgs false
set_option linter.unusedVariables false
mutual
/-- All texts are short. -/
def Nd.tok : Nd → Prop
  | .mk _ s l => s.length < NT ∧ Nd.tokL l
def Nd.tokL : List Nd → Prop
  | [] => True
  | x :: l => x.tok ∧ Nd.tokL l
end
theorem Nd.tok_mem : ∀ {l : List Nd} {x : Nd}, Nd.tokL l → x ∈ l → x.tok
  | y :: l, x, h, hx => by
    simp only [Nd.tokL] at h
    rcases List.mem_cons.1 hx with rfl | hx
    · exact h.1
    · exact Nd.tok_mem h.2 hx
theorem Nd.tok_eq (x : Nd) : x.tok ↔ x.text.length < NT ∧ Nd.tokL x.kids := by cases x; simp [Nd.tok, Nd.text, Nd.kids]
abbrev CKV : V := .ipt 285 [.agg shCells] 0 0
mutual
/-- One holds of all nodes. -/
def allB (one : Nd → Bool) : Nd → Bool
  | .mk k s l => one (.mk k s l) && allBL one l
def allBL (one : Nd → Bool) : List Nd → Bool
  | [] => true
  | x :: l => allB one x && allBL one l
end
theorem allB_eq (one : Nd → Bool) (x : Nd) : allB one x = (one x && allBL one x.kids) := by cases x; simp [allB, Nd.kids]
theorem allBL_any (one : Nd → Bool) : ∀ l : List Nd, (!(l.any fun y => !(allB one y))) = allBL one l
  | [] => rfl
  | x :: l => by
    have := allBL_any one l
    simp only [List.any_cons, allBL, ← this]
    cases allB one x <;> simp
theorem allBL_mem {one : Nd → Bool} : ∀ {l : List Nd} {y : Nd}, allBL one l = true → y ∈ l → allB one y = true
  | x :: l, y, h, hy => by
    simp only [allBL, Bool.and_eq_true] at h
    rcases List.mem_cons.1 hy with rfl | hy
    · exact h.1
    · exact allBL_mem h.2 hy
theorem EBody.of2 {F : FuncId} {vs : List V} {r : Res} (h : EBody Tryz.prog TT F vs (fun x => x = r)) : Body Tryz.prog TT F vs r := by
  obtain ⟨fn, c, h1, h2, h3, o, ⟨r', rfl, k2⟩, hx⟩ := h
  exact ⟨fn, c, h1, h2, h3, o, k2, hx⟩
/-- ContainsFunc, of a predicate whose values are known. -/
theorem sp_contp {call : CallF} (hC : call.Sound Tryz.prog TT) (g : FuncId) (cs : List V) (hx0 : TT.ext g = none) (hcs : nlL cs = true) (l : List Nd) (hlen : l.length < 1100000) (p : Nd → Bool) (hg : ∀ x ∈ l, ∀ H, call g (x.enc :: cs) H = .val (.b (p x)) H) :
    ∃ g4, SpecOK Tryz.prog TT 55 g4 ∧ ∀ H, g4 [.isl 3 (Nd.encL l), .fn g cs] H = .val (.b (l.any p)) H := by
  have hnl : nlL [.isl 3 (Nd.encL l), .fn g cs] = true := by simp [nlL, nl, Nd.encL_nl, hcs]
  obtain ⟨g6, hg6, hs6⟩ := spec_pure TT_ok TT_plain 79 (fun vs => vs = [.isl 3 (Nd.encL l), .fn g cs]) (fun _ r => ∃ i : Int, r = .val (.i .i64 i) ∧ decide (0 ≤ i) = (l.any fun x => p x)) (by
    rintro vs rfl
    refine ⟨hnl, by rintro r ⟨i, rfl, _⟩; rfl, ?_⟩
    exact (body_66 hC l g cs p hx0 hg hlen).mono fun r ⟨i, h, h0, h1, h2⟩ => ⟨i, h, h0⟩)
  obtain ⟨r, ⟨i, rfl, h0⟩, hi⟩ := hs6 _ rfl
  obtain ⟨g4, hg4, hs4⟩ := spec_val TT_ok TT_plain 55 (fun _ : Unit => [.isl 3 (Nd.encL l), .fn g cs]) (fun _ => True) (fun _ => .b (l.any p)) (fun _ _ => hnl) (fun _ => rfl) (fun _ _ _ => rfl) (fun _ _ => body_41 (ws n0 hg6) (Nd.encL l) i _ h0 g cs fun H => by rw [w_here]; exact hi H)
  exact ⟨g4, hg4, hs4 () trivial⟩
theorem sp16p (one : Nd → Bool) (g40 : Spec) (k40 : SpecOK Tryz.prog TT 54 g40) (s40 : ∀ x : Nd, x.num < NT → x.text.length < NT → ∀ H, g40 [CKV, x.enc] H = .val (.b (one x)) H) :
    ∃ g, SpecOK Tryz.prog TT 32 g ∧ ∀ x : Nd, x.num < NT → x.tok → ∀ H, g [CKV, x.enc] H = .val (.b (allB one x)) H := by
  obtain ⟨g, hg, hs⟩ := spec_rec TT_ok TT_plain 32 (fun k vs => ∃ x : Nd, x.num = k ∧ x.num < NT ∧ x.tok ∧ vs = [CKV, x.enc]) (fun vs r => ∃ x : Nd, vs = [CKV, x.enc] ∧ r = .val (.b (allB one x))) (by
    rintro k vs ⟨x, rfl, hx, htok, rfl⟩
    refine ⟨by simp [nlL, nl, Nd.enc_nl, shCells_nl], by rintro r ⟨_, _, rfl⟩; rfl, fun g hg hrec => ?_⟩
    have hnum := x.num_eq
    have hlen := Nd.numL_length x.kids
    have hN : NT = 1090000 := rfl
    have htok' := (Nd.tok_eq x).1 htok
    have hb := s40 x hx htok'.1
    have key : EBody Tryz.prog TT 32 [CKV, x.enc] (fun r => r = .val (.b (allB one x))) := by
      rw [allB_eq]
      cases ho : one x with
      | false =>
        rw [ho] at hb
        exact body_16pf (ws n0 k40) x fun H => by rw [w_here]; exact hb H
      | true =>
        rw [ho] at hb
        have hkid : ∀ y ∈ x.kids, ∀ H, g [CKV, y.enc] H = .val (.b (allB one y)) H := fun y hy H => by
          have := Nd.num_mem hy
          obtain ⟨r, ⟨y', e, rfl⟩, h⟩ := hrec y.num (by omega) [CKV, y.enc] ⟨y, rfl, by omega, Nd.tok_mem htok'.2 hy, rfl⟩
          simp only [List.cons.injEq, true_and, and_true] at e
          have := Nd.enc_inj _ _ e
          subst this
          rw [h]
          rfl
        obtain ⟨g42, hg42, hs42⟩ := spec_val TT_ok TT_plain 56 (fun y : Nd => [y.enc, .ipt 1 [.agg [CKV]] 0 0]) (fun y => y ∈ x.kids) (fun y => .b (!(allB one y))) (fun y _ => by simp [nlL, nl, Nd.enc_nl, shCells_nl]) (fun _ => rfl) (fun a b h => by
          simp only [List.cons.injEq, and_true] at h
          rw [Nd.enc_inj _ _ h]) (fun y hy =>
          body_42 (ws n0 hg) y CKV _ fun H => by rw [w_here]; exact hkid y hy H)
        obtain ⟨g4, hg4, hq⟩ := sp_contp (ws n0 hg42) 56 [.ipt 1 [.agg [CKV]] 0 0] rfl (by simp [nlL, nl, shCells_nl]) x.kids (by omega) (fun y => !(allB one y)) (fun y hy H => by rw [w_here]; exact hs42 y hy H)
        have := body_16pt (ws (ws n0 k40) hg4) x _ (fun H => by rw [w_other _ _ _ _ rfl, w_here]; exact hb H) fun H => by rw [w_here]; exact hq H
        rw [allBL_any] at this
        simpa using this
    refine key.mono ?_
    rintro r rfl
    exact ⟨x, rfl, rfl⟩) NT
  refine ⟨g, hg, fun x hx ht H => ?_⟩
  obtain ⟨r, ⟨x', e, rfl⟩, h⟩ := hs x.num hx [CKV, x.enc] ⟨x, rfl, hx, ht, rfl⟩
  simp only [List.cons.injEq, true_and, and_true] at e
  have := Nd.enc_inj _ _ e
  subst this
  rw [h]
  rfl
/-- What Check returns. -/
def chkV (one : Nd → Bool) (x : Nd) : Int := if tooL x = true then 4 else if allB one x = true then 0 else 2
theorem chkV_kid {one : Nd → Bool} {x y : Nd} (h : chkV one x = 0) (hy : y ∈ x.kids) : chkV one y = 0 := by
  simp only [chkV] at h ⊢
  have hnum := x.num_eq
  have := Nd.num_mem hy
  have := dep_kid hy
  cases ht : tooL x with
  | true => rw [if_pos ht] at h; cases h
  | false =>
    rw [ht] at h
    simp only [Bool.false_eq_true, if_false] at h
    cases ha : allB one x with
    | false => rw [ha] at h; simp at h
    | true =>
      rw [allB_eq, Bool.and_eq_true] at ha
      have h2 := allBL_mem ha.2 hy
      have h3 : tooL y = false := by
        simp only [tooL, decide_eq_false_iff_not] at ht ⊢
        omega
      simp [h2, h3]
theorem sp8p (one : Nd → Bool) (g40 : Spec) (k40 : SpecOK Tryz.prog TT 54 g40) (s40 : ∀ x : Nd, x.num < NT → x.text.length < NT → ∀ H, g40 [CKV, x.enc] H = .val (.b (one x)) H) :
    ∃ g, SpecOK Tryz.prog TT 14 g ∧ ∀ x : Nd, x.num < NT ∧ x.tok → ∀ H, g [x.enc] H = .val (.i .i64 (chkV one x)) H := by
  obtain ⟨g14, k14, s14⟩ := sp14p
  obtain ⟨g16, k16, s16⟩ := sp16p one g40 k40 s40
  refine spec_val TT_ok TT_plain 14 (fun x : Nd => [x.enc]) (fun x => x.num < NT ∧ x.tok) (fun x => .i .i64 (chkV one x)) (fun x _ => by simp [nlL, Nd.enc_nl]) (fun _ => rfl) (fun a b h => by
    simp only [List.cons.injEq, and_true] at h
    rw [Nd.enc_inj _ _ h]) fun x hx => EBody.of2 ?_
  have hb := s14 x hx.1
  have hC := ws (ws (ws n0 k14) k16) ok15
  simp only [chkV]
  cases ht : tooL x with
  | true =>
    rw [ht] at hb
    simpa using body_8pl hC x fun H => by rw [w_other _ _ _ _ rfl, w_other _ _ _ _ rfl, w_here]; exact hb H
  | false =>
    rw [ht] at hb
    have hq := s16 x hx.1 hx.2
    cases ha : allB one x with
    | true =>
      rw [ha] at hq
      simpa using body_8pst hC x (fun H => by rw [w_other _ _ _ _ rfl, w_other _ _ _ _ rfl, w_here]; exact hb H) (fun H => by rw [w_here]; rfl) fun H => by rw [w_other _ _ _ _ rfl, w_here]; exact hq H
    | false =>
      rw [ha] at hq
      simpa using body_8psf hC x (fun H => by rw [w_other _ _ _ _ rfl, w_other _ _ _ _ rfl, w_here]; exact hb H) (fun H => by rw [w_here]; rfl) fun H => by rw [w_other _ _ _ _ rfl, w_here]; exact hq H
/-- Check, with some look at one node. -/
theorem sp8one : ∃ (one : Nd → Bool) (g : Spec), SpecOK Tryz.prog TT 14 g ∧ ∀ x : Nd, x.num < NT ∧ x.tok → ∀ H, g [x.enc] H = .val (.i .i64 (chkV one x)) H := by
  classical
  obtain ⟨g40, k40, s40⟩ := sp40
  refine ⟨fun x => if h : x.num < NT ∧ x.text.length < NT then (s40 x h.1 h.2).choose else false, sp8p _ g40 k40 fun x h1 h2 H => ?_⟩
  simp only [dif_pos (And.intro h1 h2)]
  exact (s40 x h1 h2).choose_spec H
end Go.Ev
