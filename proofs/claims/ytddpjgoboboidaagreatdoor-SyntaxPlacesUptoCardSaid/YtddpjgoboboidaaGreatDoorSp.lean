/- What the small functions return, for every tree. -/
import Derived.Test.YtddpjgoboboidaaGreatDoorWG
import Derived.Test.YtddpjgoboboidaaGreatDoorSg
namespace Go.Ev
open Go Go.Proofs
set_option maxRecDepth 100000
set_option linter.unusedSimpArgs false
set_option linter.unusedVariables false
/-- A predicate on nodes. -/
def SpNode (F : FuncId) : Prop := ∃ g, SpecOK Tryz.prog TT F g ∧ ∀ x : Nd, ∃ b : Bool, ∀ H, g [x.enc] H = .val (.b b) H
/-- A predicate on texts. -/
def SpText (F : FuncId) : Prop := ∃ g, SpecOK Tryz.prog TT F g ∧ ∀ s : List UInt8, s.length < NT → ∃ b : Bool, ∀ H, g [.s s] H = .val (.b b) H
theorem sp_node (F : FuncId) (h : ∀ x : Nd, EBody Tryz.prog TT F [x.enc] (fun r => ∃ b : Bool, r = .val (.b b))) : ∃ g, SpecOK Tryz.prog TT F g ∧ ∀ x : Nd, ∃ b : Bool, ∀ H, g [x.enc] H = .val (.b b) H := by
  obtain ⟨g, hg, hs⟩ := spec_bool TT_ok TT_plain F (fun x : Nd => [x.enc]) (fun _ => True) (fun x _ => by simp [nlL, Nd.enc_nl]) (fun x _ => h x)
  exact ⟨g, hg, fun x => hs x trivial⟩
theorem sp23 : SpNode 18 := sp_node 18 fun x => (body_23 n0 x).bool
theorem sp24 : SpNode 20 := sp_node 20 fun x => (body_24 n0 x).bool
theorem sp29 : SpNode 44 := sp_node 44 fun x => (body_29 n0 x).bool
theorem sp32 : SpNode 22 := sp_node 22 fun x => (body_32 n0 x).bool
theorem sp37 : ∃ g, SpecOK Tryz.prog TT 51 g ∧ ∀ x : Nd, ∃ b : Bool, ∀ H, g [x.enc] H = .val (.b b) H := by
  obtain ⟨g, hg, hs⟩ := sp24
  refine sp_node 51 fun x => ?_
  obtain ⟨b, hb⟩ := hs x
  exact (body_37 (ws n0 hg) x b fun H => by rw [w_here]; exact hb H).bool
theorem sp39 : ∃ g, SpecOK Tryz.prog TT 53 g ∧ ∀ x : Nd, ∃ b : Bool, ∀ H, g [x.enc] H = .val (.b b) H := by
  obtain ⟨g, hg, hs⟩ := sp24
  refine sp_node 53 fun x => ?_
  obtain ⟨b, hb⟩ := hs x
  exact (body_39 (ws n0 hg) x b fun H => by rw [w_here]; exact hb H).bool
theorem sp58 : ∃ g, SpecOK Tryz.prog TT 71 g ∧ ∀ p : Nd × Int, ∃ b : Bool, ∀ H, g [p.1.enc, .ipt 1 [.agg [.i .i64 p.2]] 0 0] H = .val (.b b) H := by
  obtain ⟨g, hg, hs⟩ := spec_bool TT_ok TT_plain 71 (fun p : Nd × Int => [p.1.enc, .ipt 1 [.agg [.i .i64 p.2]] 0 0]) (fun _ => True) (fun x _ => by simp [nlL, nl, Nd.enc_nl]) (fun p _ => (body_58 n0 p.1 p.2).bool)
  exact ⟨g, hg, fun x => hs x trivial⟩
theorem sp53 : ∃ g, SpecOK Tryz.prog TT 66 g ∧ ∀ (x : Nd) (f : FuncId), f = 18 ∨ f = 20 → ∃ b : Bool, ∀ H, g [x.enc, .ipt 1 [.agg [.fn f []]] 0 0] H = .val (.b b) H := by
  obtain ⟨g3, hg3, hs3⟩ := sp23
  obtain ⟨g4, hg4, hs4⟩ := sp24
  obtain ⟨g, hg, hs⟩ := spec_bool TT_ok TT_plain 66 (fun p : Nd × FuncId => [p.1.enc, .ipt 1 [.agg [.fn p.2 []]] 0 0]) (fun p => p.2 = 18 ∨ p.2 = 20) (fun x _ => by simp [nlL, nl, Nd.enc_nl]) (fun p hp => by
    obtain ⟨x, f⟩ := p
    rcases hp with rfl | rfl
    · obtain ⟨b, hb⟩ := hs3 x
      exact (body_53 (ws n0 hg3) x 18 rfl [] b fun H => by rw [w_here]; exact hb H).bool
    · obtain ⟨b, hb⟩ := hs4 x
      exact (body_53 (ws n0 hg4) x 20 rfl [] b fun H => by rw [w_here]; exact hb H).bool)
  exact ⟨g, hg, fun x f hf => hs (x, f) hf⟩
theorem encS_inj : ∀ a b : List (List UInt8), encS a = encS b → a = b
  | [], [], _ => rfl
  | [], _ :: _, h => by simp [encS] at h
  | _ :: _, [], h => by simp [encS] at h
  | x :: a, y :: b, h => by
    simp only [encS, List.map_cons, List.cons.injEq, V.s.injEq] at h
    rw [h.1, encS_inj a b h.2]
theorem sp69 : ∃ g, SpecOK Tryz.prog TT 87 g ∧ ∀ p : List (List UInt8) × List UInt8, p.1.length < 1100000 → ∃ b : Int, ∀ H, g [.isl 1 (encS p.1), .s p.2] H = .val (.i .i64 b) H :=
  spec_int TT_ok TT_plain 87 (fun p : List (List UInt8) × List UInt8 => [.isl 1 (encS p.1), .s p.2]) (fun p => p.1.length < 1100000) (fun x _ => by simp [nlL, nl, encS_nl]) (fun p hp => (body_69 n0 p.1 p.2 hp).mono fun r ⟨i, h, _⟩ => ⟨i, h⟩)
theorem sp49 : ∃ g, SpecOK Tryz.prog TT 62 g ∧ ∀ p : List (List UInt8) × List UInt8, p.1.length < 1100000 → ∃ b : Bool, ∀ H, g [.isl 1 (encS p.1), .s p.2] H = .val (.b b) H := by
  obtain ⟨g, hg, hs⟩ := sp69
  refine spec_bool TT_ok TT_plain 62 (fun p : List (List UInt8) × List UInt8 => [.isl 1 (encS p.1), .s p.2]) (fun p => p.1.length < 1100000) (fun x _ => by simp [nlL, nl, encS_nl]) (fun p hp => ?_)
  obtain ⟨i, hi⟩ := hs p hp
  exact (body_49 (ws n0 hg) (encS p.1) i _ rfl p.2 fun H => by rw [w_here]; exact hi H).bool
theorem sp48 : ∃ g, SpecOK Tryz.prog TT 61 g ∧ ∀ p : Nd × List (List UInt8), p.2.length < 1100000 → ∃ b : Bool, ∀ H, g [p.1.enc, .ipt 1 [.agg [.isl 1 (encS p.2)]] 0 0] H = .val (.b b) H := by
  obtain ⟨g, hg, hs⟩ := sp49
  refine spec_bool TT_ok TT_plain 61 (fun p : Nd × List (List UInt8) => [p.1.enc, .ipt 1 [.agg [.isl 1 (encS p.2)]] 0 0]) (fun p => p.2.length < 1100000) (fun x _ => by simp [nlL, nl, encS_nl, Nd.enc_nl]) (fun p hp => ?_)
  obtain ⟨b, hb⟩ := hs (p.2, p.1.text) hp
  exact (body_48 (ws n0 hg) p.1 (encS p.2) b fun H => by rw [w_here]; exact hb H).bool
theorem sp63 : ∃ g, SpecOK Tryz.prog TT 76 g ∧ ∀ p : List UInt8 × List (List UInt8), p.2.length < 1100000 → ∃ b : Bool, ∀ H, g [.s p.1, .ipt 1 [.agg [.isl 1 (encS p.2)]] 0 0] H = .val (.b b) H := by
  obtain ⟨g, hg, hs⟩ := sp49
  refine spec_bool TT_ok TT_plain 76 (fun p : List UInt8 × List (List UInt8) => [.s p.1, .ipt 1 [.agg [.isl 1 (encS p.2)]] 0 0]) (fun p => p.2.length < 1100000) (fun x _ => by simp [nlL, nl, encS_nl]) (fun p hp => ?_)
  obtain ⟨b, hb⟩ := hs (p.2, p.1) hp
  exact (body_63 (ws n0 hg) p.1 (encS p.2) b fun H => by rw [w_here]; exact hb H).bool
theorem sp_text (F : FuncId) (N : Nat) (h : ∀ s : List UInt8, s.length < N → EBody Tryz.prog TT F [.s s] (fun r => ∃ b : Bool, r = .val (.b b))) : ∃ g, SpecOK Tryz.prog TT F g ∧ ∀ s : List UInt8, s.length < N → ∃ b : Bool, ∀ H, g [.s s] H = .val (.b b) H :=
  spec_bool TT_ok TT_plain F (fun s : List UInt8 => [.s s]) (fun s => s.length < N) (fun x _ => by simp [nlL, nl]) h
theorem sp28 : SpText 43 := sp_text 43 NT fun s _ => (body_28 n0 s).bool
theorem sp83 : ∃ g, SpecOK Tryz.prog TT 108 g ∧ ∀ c : Int, ∃ b : Bool, ∀ H, g [.i .u8 c] H = .val (.b b) H := by
  obtain ⟨g, hg, hs⟩ := spec_bool TT_ok TT_plain 108 (fun c : Int => [.i .u8 c]) (fun _ => True) (fun x _ => by simp [nlL, nl]) (fun c _ => (body_83 n0 c).bool)
  exact ⟨g, hg, fun c => hs c trivial⟩
theorem sp99 : ∃ g, SpecOK Tryz.prog TT 130 g ∧ ∀ c : Int, ∃ b : Bool, ∀ H, g [.i .u8 c] H = .val (.b b) H := by
  obtain ⟨g, hg, hs⟩ := spec_bool TT_ok TT_plain 130 (fun c : Int => [.i .u8 c]) (fun _ => True) (fun x _ => by simp [nlL, nl]) (fun c _ => (body_99 n0 c).bool)
  exact ⟨g, hg, fun c => hs c trivial⟩
theorem sp84 : ∃ g, SpecOK Tryz.prog TT 109 g ∧ ∀ c : Int, ∃ b : Bool, ∀ H, g [.i .u8 c] H = .val (.b b) H := by
  obtain ⟨g3, hg3, hs3⟩ := sp83
  obtain ⟨g9, hg9, hs9⟩ := sp99
  obtain ⟨g, hg, hs⟩ := spec_bool TT_ok TT_plain 109 (fun c : Int => [.i .u8 c]) (fun _ => True) (fun x _ => by simp [nlL, nl]) (fun c _ => by
    obtain ⟨b, hb⟩ := hs3 c
    obtain ⟨b2, hb2⟩ := hs9 c
    exact (body_84 (ws (ws n0 hg3) hg9) c b b2 (fun H => by rw [w_other _ _ _ _ rfl, w_here]; exact hb H) (fun H => by rw [w_here]; exact hb2 H)).bool)
  exact ⟨g, hg, fun c => hs c trivial⟩
theorem sp71 : ∃ g, SpecOK Tryz.prog TT 89 g ∧ ∀ s : List UInt8, s.length < NT → ∃ n : Int, ∀ H, g [.s s] H = .val (.i .i64 n) H := by
  obtain ⟨g3, hg3, hs3⟩ := sp83
  obtain ⟨g4, hg4, hs4⟩ := sp84
  refine spec_int TT_ok TT_plain 89 (fun s : List UInt8 => [.s s]) (fun s => s.length < NT) (fun x _ => by simp [nlL, nl]) fun s hs => ?_
  have hC := ws (ws n0 hg3) hg4
  cases s with
  | nil => exact body_71n hC
  | cons c r =>
    obtain ⟨b, hb⟩ := hs3 c.toNat
    cases b with
    | false => exact body_71f hC c r (fun H => by rw [w_other _ _ _ _ rfl, w_here]; exact hb H)
    | true => exact body_71t hC c r (Nat.lt_trans hs (by decide)) (fun c => (hs4 c).choose) (fun c H => by rw [w_here]; exact (hs4 c).choose_spec H) (fun H => by rw [w_other _ _ _ _ rfl, w_here]; exact hb H)
theorem sp52 : ∃ g, SpecOK Tryz.prog TT 65 g ∧ ∀ s : List UInt8, s.length < NT → ∃ b : Bool, ∀ H, g [.s s] H = .val (.b b) H := by
  obtain ⟨g1, hg1, hs1⟩ := sp71
  refine sp_text 65 NT fun s hs => ?_
  obtain ⟨n, hn⟩ := hs1 s hs
  exact (body_52 (ws (ws n0 hg1) ok72) s n (fun H => by rw [w_other _ _ _ _ rfl, w_here]; exact hn H) (by rw [w_here]; rfl) (kw_lookup s)).bool
theorem sp26 : ∃ g, SpecOK Tryz.prog TT 41 g ∧ ∀ s : List UInt8, ∃ b : Bool, ∀ H, g [.s s] H = .val (.b b) H := by
  obtain ⟨g1, hg1, hs1⟩ := sp52
  obtain ⟨g, hg, hs⟩ := spec_bool TT_ok TT_plain 41 (fun s : List UInt8 => [.s s]) (fun s => True) (fun x _ => by simp [nlL, nl]) fun s _ => by
    cases h : decide ((s.length : Int) ≤ 60) with
    | false => exact (body_26b n0 s h).bool
    | true =>
      obtain ⟨b, hb⟩ := hs1 s (by simp at h; have : NT = 1090000 := rfl; omega)
      exact (body_26a (ws n0 hg1) s b h fun H => by rw [w_here]; exact hb H).bool
  exact ⟨g, hg, fun s => hs s trivial⟩
end Go.Ev
