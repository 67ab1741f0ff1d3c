/- What the looks at texts return. -/
import Derived.Test.YtddpjgoboboidaaGreatDoorSp
namespace Go.Ev
open Go Go.Proofs
set_option maxRecDepth 100000
set_option linter.unusedSimpArgs false
set_option linter.unusedVariables false
theorem indexByte_cases (s : List UInt8) (c : UInt8) : Lib.indexByte s c = -1 ∨ ∃ n : Nat, Lib.indexByte s c = n ∧ n < s.length := by
  induction s with
  | nil => exact .inl rfl
  | cons b l ih =>
    simp only [Lib.indexByte]
    by_cases h : (b == c) = true
    · rw [if_pos h]; exact .inr ⟨0, rfl, by simp⟩
    · rw [if_neg h]
      rcases ih with h1 | ⟨n, h1, h2⟩
      · rw [h1]; exact .inl rfl
      · rw [h1]
        have : ¬ (((n : Int) == -1) = true) := by
          intro e
          have : (n : Int) = -1 := eq_of_beq e
          omega
        rw [if_neg this]
        exact .inr ⟨n + 1, by push_cast; rfl, by simp; omega⟩
theorem sp60 : ∃ g, SpecOK Tryz.prog TT 73 g ∧ ∀ s : List UInt8, s.length < NT → ∀ H, g [.s s] H = .val (.b (digitsN s)) H :=
  spec_val TT_ok TT_plain 73 (fun s : List UInt8 => [.s s]) (fun s => s.length < NT) (fun s => .b (digitsN s)) (fun x _ => by simp [nlL, nl]) (fun _ => rfl) (fun a b h => by
    simp only [List.cons.injEq, V.s.injEq, and_true] at h; rw [h]) fun s hs =>
    body_60 (ws n0 ok75) s fun H => by
      rw [w_here]
      have h1 : s.length < 4294967281 := by have : NT = 1090000 := rfl; omega
      simp only [spTrim]
      rw [if_pos ⟨h1, by decide, by decide⟩]
      rfl
theorem sp34 : SpText 48 := by
  obtain ⟨g, hg, hs⟩ := sp60
  refine sp_text 48 NT fun s h => ?_
  cases s with
  | nil => exact body_34a (ws n0 hg) false fun H => by rw [w_here]; exact hs [] (by decide) H
  | cons c r => exact body_34b (ws n0 hg) c r _ fun H => by rw [w_here]; exact hs (c :: r) h H
/-- What Cut returns: two texts that are no longer. -/
def CutR (s : List UInt8) (r : Res) : Prop := ∃ (a b : List UInt8) (f : Bool), r = .val (.tup [.s a, .s b, .b f]) ∧ a.length ≤ s.length ∧ b.length ≤ s.length
theorem sp76 : ∃ g, SpecOK Tryz.prog TT 94 g ∧ ∀ p : List UInt8 × UInt8, p.1.length < NT → ∃ r, CutR p.1 r ∧ ∀ H, g [.s p.1, .s [p.2]] H = r.at H := by
  obtain ⟨g, hg, hs⟩ := spec_pure TT_ok TT_plain 94 (fun vs => ∃ p : List UInt8 × UInt8, p.1.length < NT ∧ vs = [.s p.1, .s [p.2]]) (fun vs r => ∃ s c, vs = [.s s, .s [c]] ∧ CutR s r) (by
    rintro vs ⟨⟨s, c⟩, hl, rfl⟩
    refine ⟨by simp [nlL, nl], by rintro r ⟨_, _, _, a, b, f, rfl, _⟩; simp [Res.nl, nl, nlL], EBody.mono (R := CutR s) ?_ fun r hr => ⟨s, c, rfl, hr⟩⟩
    rcases indexByte_cases s c with h | ⟨n, h, hlt⟩
    · exact body_76a (ws n0 ok95) s c (by rw [h]; rfl) fun H => by rw [w_here]; rfl
    · exact body_76b (ws n0 ok95) s c n h hlt (by omega) (by omega) (by omega) (wrap_i64 (by omega) (by have : NT = 1090000 := rfl; simp only at hl; omega)) fun H => by rw [w_here, ← h]; rfl)
  refine ⟨g, hg, fun p hp => ?_⟩
  obtain ⟨r, ⟨s, c, e, hr⟩, h⟩ := hs _ ⟨p, hp, rfl⟩
  simp only [List.cons.injEq, V.s.injEq, and_true] at e
  rw [← e.1] at hr
  exact ⟨r, hr, h⟩
theorem sp61 : ∃ g, SpecOK Tryz.prog TT 74 g ∧ ∀ p : List UInt8 × UInt8, p.1.length < NT → ∃ r, CutR p.1 r ∧ ∀ H, g [.s p.1, .s [p.2]] H = r.at H := by
  obtain ⟨g6, hg6, hs6⟩ := sp76
  obtain ⟨g, hg, hs⟩ := spec_pure TT_ok TT_plain 74 (fun vs => ∃ p : List UInt8 × UInt8, p.1.length < NT ∧ vs = [.s p.1, .s [p.2]]) (fun vs r => ∃ s c, vs = [.s s, .s [c]] ∧ CutR s r) (by
    rintro vs ⟨⟨s, c⟩, hl, rfl⟩
    refine ⟨by simp [nlL, nl], by rintro r ⟨_, _, _, a, b, f, rfl, _⟩; simp [Res.nl, nl, nlL], EBody.mono (R := CutR s) ?_ fun r hr => ⟨s, c, rfl, hr⟩⟩
    obtain ⟨r, ⟨a, b, f, rfl, h1, h2⟩, h⟩ := hs6 (s, c) hl
    refine (body_61 (ws n0 hg6) s c a b f fun H => by rw [w_here]; exact h H).ex.mono ?_
    rintro r rfl
    exact ⟨a, b, f, rfl, h1, h2⟩)
  refine ⟨g, hg, fun p hp => ?_⟩
  obtain ⟨r, ⟨s, c, e, hr⟩, h⟩ := hs _ ⟨p, hp, rfl⟩
  simp only [List.cons.injEq, V.s.injEq, and_true] at e
  rw [← e.1] at hr
  exact ⟨r, hr, h⟩
theorem sp35 : SpText 49 := by
  obtain ⟨g1, hg1, hs1⟩ := sp61
  obtain ⟨g0, hg0, hs0⟩ := sp60
  refine sp_text 49 NT fun s hl => ?_
  have hC := ws (ws (ws n0 hg1) hg0) ok62
  cases h : decide ((20000 : Int) < s.length) with
  | true => exact body_35l n0 s h
  | false =>
    obtain ⟨r1, ⟨a, b, f, rfl, ha, hb⟩, h1⟩ := hs1 (s, 101) hl
    obtain ⟨r2, ⟨a2, b2, f2, rfl, ha2, hb2⟩, h2⟩ := hs1 (a, 46) (Nat.lt_of_le_of_lt ha hl)
    simp only at ha hb ha2 hb2
    have k1 : ∀ H, ((CallF.none.with 74 g1).with 73 g0 |>.with 75 spContains1) 74 [.s s, .s [101]] H = .val (.tup [.s a, .s b, .b f]) H := fun H => by
      rw [w_other _ _ _ _ rfl, w_other _ _ _ _ rfl, w_here]; exact h1 H
    have k2 : ∀ H, ((CallF.none.with 74 g1).with 73 g0 |>.with 75 spContains1) 74 [.s a, .s [46]] H = .val (.tup [.s a2, .s b2, .b f2]) H := fun H => by
      rw [w_other _ _ _ _ rfl, w_other _ _ _ _ rfl, w_here]; exact h2 H
    have kd : ∀ u : List UInt8, u.length < NT → ∀ H, ((CallF.none.with 74 g1).with 73 g0 |>.with 75 spContains1) 73 [.s u] H = .val (.b (digitsN u)) H := fun u hu H => by
      rw [w_other _ _ _ _ rfl, w_here]; exact hs0 u hu H
    have kc : ∀ (c : UInt8) H, ((CallF.none.with 74 g1).with 73 g0 |>.with 75 spContains1) 75 [.s [43, 45], .s [c]] H = .val (.b (decide (0 ≤ Lib.indexByte [43, 45] c))) H := fun c H => by
      rw [w_here]; rfl
    have da := kd a2 (by omega)
    have db := kd b2 (by omega)
    cases f with
    | false => exact body_35nf hC s _ kc a2 b2 f2 _ _ da db b a h k1 k2
    | true =>
      cases b with
      | nil => exact body_35e hC s _ kc a2 b2 f2 _ _ da db _ (kd [] (by decide)) a h k1 k2
      | cons c r => exact body_35c hC s _ kc a2 b2 f2 _ _ da db c r _ _ (kd (c :: r) (by omega)) (kd r (by simp at hb; omega)) a h k1 k2
theorem sp33 : SpText 47 := ⟨spValid, ok33, fun s hs => ⟨Lib.validD s, fun H => by
  have : s.length < 4294967281 := by have : NT = 1090000 := rfl; omega
  simp only [spValid]
  rw [if_pos this]⟩⟩
theorem pieces_length (s : List UInt8) (c : UInt8) : (pieces s c).length ≤ s.length + 1 := by
  have hle := Lib.countB_le (⟨#[c]⟩ : ByteArray) (by show 1 ≤ 1; omega) s.length ⟨s.toArray⟩ (by show s.toArray.size ≤ _; simp)
  have hlen := Lib.splitB_all (⟨#[c]⟩ : ByteArray) (by show 1 ≤ 1; omega) 0 _ ⟨s.toArray⟩ rfl
  have hsz : (⟨s.toArray⟩ : ByteArray).size = s.length := by show s.toArray.size = _; simp
  simp only [pieces, List.length_map, hlen]
  omega
theorem sp55 : ∃ g, SpecOK Tryz.prog TT 68 g ∧ ∀ p : List UInt8 × UInt8, p.1.length < NT → ∀ H, g [.s p.1, .s [p.2]] H = .val (.isl 1 (encS (pieces p.1 p.2))) H :=
  spec_val TT_ok TT_plain 68 (fun p : List UInt8 × UInt8 => [.s p.1, .s [p.2]]) (fun p => p.1.length < NT) (fun p => .isl 1 (encS (pieces p.1 p.2))) (fun x _ => by simp [nlL, nl]) (fun p => by simp [nl, encS_nl]) (fun a b h => by
    simp only [List.cons.injEq, V.s.injEq, and_true] at h; rw [h.1, h.2]) fun p hp =>
    body_55 (ws n0 ok73) p.1 p.2 _ fun H => by
      rw [w_here]
      have : p.1.length < 4294967281 := by have : NT = 1090000 := rfl; omega
      simp only [spGen]
      rw [if_pos this]
      rfl
theorem sp57 : ∃ g, SpecOK Tryz.prog TT 70 g ∧ ∀ s : List UInt8, ∃ b : Bool, ∀ H, g [.s s] H = .val (.b b) H := by
  obtain ⟨g1, hg1, hs1⟩ := sp26
  obtain ⟨g, hg, hs⟩ := spec_bool TT_ok TT_plain 70 (fun s : List UInt8 => [.s s]) (fun s => True) (fun x _ => by simp [nlL, nl]) fun s _ => by
    obtain ⟨b, hb⟩ := hs1 s
    exact (body_57 (ws n0 hg1) s b fun H => by rw [w_here]; exact hb H).bool
  exact ⟨g, hg, fun s => hs s trivial⟩
theorem sp56 : ∃ g, SpecOK Tryz.prog TT 69 g ∧ ∀ l : List (List UInt8), l.length < 1100000 → ∃ b : Bool, ∀ H, g [.isl 1 (encS l), .fn 70 []] H = .val (.b b) H := by
  obtain ⟨g1, hg1, hs1⟩ := sp57
  obtain ⟨g4, hg4, hs4⟩ := spec_int TT_ok TT_plain 92 (fun l : List (List UInt8) => [.isl 1 (encS l), .fn 70 []]) (fun l => l.length < 1100000) (fun x _ => by simp [nlL, nl, encS_nl]) fun l hl =>
    (body_74 (ws n0 hg1) l 70 [] (fun s => (hs1 s).choose) rfl (fun x _ H => by rw [w_here]; exact (hs1 x).choose_spec H) hl).mono fun r ⟨i, h, _⟩ => ⟨i, h⟩
  refine spec_bool TT_ok TT_plain 69 (fun l : List (List UInt8) => [.isl 1 (encS l), .fn 70 []]) (fun l => l.length < 1100000) (fun x _ => by simp [nlL, nl, encS_nl]) fun l hl => ?_
  obtain ⟨i, hi⟩ := hs4 l hl
  exact (body_56 (ws n0 hg4) (encS l) i _ rfl 70 [] fun H => by rw [w_here]; exact hi H).bool
theorem sp54 : ∃ g, SpecOK Tryz.prog TT 67 g ∧ ∀ (s : List UInt8) (c : UInt8) (k : Int), s.length < NT → ∃ b : Bool, ∀ H, g [.s s, .ipt 1 [.agg [.s [c]]] 0 0, .ipt 1 [.agg [.i .i64 k]] 0 0] H = .val (.b b) H := by
  obtain ⟨g5, hg5, hs5⟩ := sp55
  obtain ⟨g6, hg6, hs6⟩ := sp56
  obtain ⟨g, hg, hs⟩ := spec_bool TT_ok TT_plain 67 (fun p : List UInt8 × UInt8 × Int => [.s p.1, .ipt 1 [.agg [.s [p.2.1]]] 0 0, .ipt 1 [.agg [.i .i64 p.2.2]] 0 0]) (fun p => p.1.length < NT) (fun x _ => by simp [nlL, nl]) (fun p hp => by
    obtain ⟨s, c, k⟩ := p
    obtain ⟨q, hq⟩ := hs6 (pieces s c) (by have := pieces_length s c; have : NT = 1090000 := rfl; simp only at hp; omega)
    exact body_54 (ws (ws n0 hg5) hg6) s c k (pieces s c) q (fun H => by rw [w_other _ _ _ _ rfl, w_here]; exact hs5 (s, c) hp H) (fun H => by rw [w_here]; exact hq H))
  exact ⟨g, hg, fun s c k h => hs (s, c, k) h⟩
end Go.Ev
