/- Walks over the look at a node by its kind. -/
import Derived.Test.YtddpjgoboboidaaGreatDoorWE
import Derived.Test.YtddpjgoboboidaaGreatDoorShT
namespace Go.Ev
open Go Go.Proofs
set_option maxRecDepth 100000
set_option linter.unusedSimpArgs false
set_option linter.unusedVariables false
theorem mapGet_words (s : List UInt8) : ∀ ws : List (List UInt8), mapGet (some .string) (.s s) ((ws.map fun w => [V.s w, V.b true]).flatten) = some (if ws.contains s then some (.b true) else none)
  | [] => rfl
  | w :: ws => by
    simp only [List.map_cons, List.flatten_cons, List.cons_append, List.nil_append, mapGet, sameKey]
    by_cases h : s = w
    · subst h; simp
    · have ih := mapGet_words s ws
      have h2 : (s == w) = false := beq_eq_false_iff_ne.2 h
      simp [h, h2, ih]
theorem one_le (r : List UInt8) : (1 : Int) ≤ r.length + 1 := by omega
def kwWords : List (List UInt8) := [[97, 99, 116, 111, 114], [97, 110, 100], [97, 115], [98, 101], [98, 111, 120], [98, 114, 101, 97, 107], [99, 108, 97, 115, 115], [99, 111, 110, 115, 117, 109, 101], [99, 111, 110, 116, 105, 110, 117, 101], [100, 111], [101, 108, 115, 101], [101, 108, 115, 101, 105, 102], [101, 110, 100], [101, 114, 114, 111, 114], [102, 97, 108, 115, 101], [102, 111, 114], [102, 117, 110], [105, 102], [105, 102, 100, 101, 102], [105, 110], [105, 110, 116, 101, 114, 102, 97, 99, 101], [105, 115], [105, 115, 110, 116], [105, 115, 111], [108, 101, 116], [109, 97, 116, 99, 104], [110, 101, 119], [110, 111, 116], [111, 98, 106, 101, 99, 116], [111, 114], [112, 114, 105, 109, 105, 116, 105, 118, 101], [114, 101, 99, 111, 118, 101, 114], [114, 101, 102], [114, 101, 112, 101, 97, 116], [114, 101, 116, 117, 114, 110], [116, 97, 103], [116, 104, 101, 110], [116, 104, 105, 115], [116, 114, 97, 105, 116], [116, 114, 110], [116, 114, 117, 101], [116, 114, 121], [116, 121, 112, 101], [117, 110, 116, 105, 108], [117, 115, 101], [118, 97, 108], [118, 97, 114], [119, 104, 101, 114, 101], [119, 104, 105, 108, 101], [119, 105, 116, 104], [120, 111, 114]]
def kw (s : List UInt8) : Bool := kwWords.contains s
theorem kw_lookup (s : List UInt8) : evLookup TT 113 (.mp 0) (.s s) false kwHeap = some (.b (kw s)) := by
  have h1 : mapAt kwHeap 0 = some ⟨113, (kwWords.map fun w => [V.s w, V.b true]).flatten, .map⟩ := rfl
  simp only [evLookup, tU, Tryz.underlying113, h1, tU, Tryz.underlying9, goodKey, if_true, mapGet_words, kw]
  cases kwWords.contains s <;> simp
theorem body_52 {call : CallF} (hC : call.Sound Tryz.prog TT) (s : List UInt8) (n : Int) (hs : ∀ H, call 89 [.s s] H = .val (.i .i64 n) H) (hk : call 90 [] [] = .val (.mp 0) kwHeap) (hlk : evLookup TT 113 (.mp 0) (.s s) false kwHeap = some (.b (kw s)))  : Body Tryz.prog TT 65 [.s s] (.val (.b ((!s.isEmpty) && (n == s.length) && !kw s))) := by
  refine ⟨Tryz.f65, _, rfl, rfl, by simp [Tryz.f65], ?_⟩
  have h0 : (Tm.init Tryz.f65.ntmps [.s s]).get 0 = .s s := by rw [get_init]; rfl
  have hw : (Tm.init Tryz.f65.ntmps [.s s]).wid = 18 := rfl
  generalize Tm.init Tryz.f65.ntmps [.s s] = t at *
  try simp only [Nd.enc_eq] at *
  refine Tri.seq' ?_
  refine Tri.regN (t' := ?t1) (H' := ?H1) TT_ok hC ?e1 ?q1
  case e1 =>
    refine go_false ?_
    refine evSeq_go rfl (by simp [h0, hs, hk, hlk] <;> rfl) (by rfl) (by simp [hw]) ?_
    exact evSeq_nil
  refine inSeq_norm ?_
  refine Tri.seq' ?_
  cases hB1 : (!s.isEmpty : Bool)
  case false =>
    refine Tri.regN (t' := ?tq1f2) (H' := ?Hq1f2) TT_ok hC ?eq1f2 ?qq1f2
    case eq1f2 =>
      refine go_false ?_
      refine evSeq_go rfl (by simp [h0, hs, hk, hlk, hB1] <;> rfl) (by rfl) (by simp [hw]) ?_
      refine evSeq_go rfl (by simp [h0, hs, hk, hlk, hB1] <;> rfl) (by rfl) (by simp [hw]) ?_
      refine evSeq_go rfl (by simp [h0, hs, hk, hlk, hB1] <;> rfl) (by rfl) (by simp [hw]) ?_
      refine evSeq_off (by simp [wants, h0, hs, hk, hlk, hB1]) (by simp [hw]) ?_
      refine evSeq_off (by simp [wants, h0, hs, hk, hlk, hB1]) (by simp [hw]) ?_
      refine evSeq_off (by simp [wants, h0, hs, hk, hlk, hB1]) (by simp [hw]) ?_
      refine evSeq_off (by simp [wants, h0, hs, hk, hlk, hB1]) (by simp [hw]) ?_
      refine evSeq_off (by simp [wants, h0, hs, hk, hlk, hB1]) (by simp [hw]) ?_
      refine evSeq_go rfl (by simp [h0, hs, hk, hlk, hB1] <;> rfl) (by rfl) (by simp [hw]) ?_
      refine evSeq_go rfl (by simp [h0, hs, hk, hlk, hB1] <;> rfl) (by rfl) (by simp [hw]) ?_
      refine evSeq_off (by simp [wants, h0, hs, hk, hlk, hB1]) (by simp [hw]) ?_
      refine evSeq_off (by simp [wants, h0, hs, hk, hlk, hB1]) (by simp [hw]) ?_
      refine evSeq_off (by simp [wants, h0, hs, hk, hlk, hB1]) (by simp [hw]) ?_
      refine evSeq_off (by simp [wants, h0, hs, hk, hlk, hB1]) (by simp [hw]) ?_
      refine evSeq_go rfl (by simp [h0, hs, hk, hlk, hB1] <;> rfl) (by rfl) (by simp [hw]) ?_
      refine evSeq_go rfl (by simp [h0, hs, hk, hlk, hB1] <;> rfl) (by rfl) (by simp [hw]) ?_
      exact evSeq_nil
    refine inSeq_norm ?_
    refine Tri.ret ?_
    simp [Ends, finish, evResults, evResult, Tryz.f65, h0, hs, hk, hlk, hB1]
  case true =>
    cases hB2 : (n == (s.length : Int) : Bool)
    case false =>
      refine Tri.regN (t' := ?tq1tq2f2) (H' := ?Hq1tq2f2) TT_ok hC ?eq1tq2f2 ?qq1tq2f2
      case eq1tq2f2 =>
        refine go_false ?_
        refine evSeq_go rfl (by simp [h0, hs, hk, hlk, hB1, hB2] <;> rfl) (by rfl) (by simp [hw]) ?_
        refine evSeq_go rfl (by simp [h0, hs, hk, hlk, hB1, hB2] <;> rfl) (by rfl) (by simp [hw]) ?_
        refine evSeq_go rfl (by simp [h0, hs, hk, hlk, hB1, hB2] <;> rfl) (by rfl) (by simp [hw]) ?_
        refine evSeq_go (by simp [wants, h0, hs, hk, hlk, hB1, hB2]) (by simp [h0, hs, hk, hlk, hB1, hB2] <;> rfl) (by rfl) (by simp [hw]) ?_
        refine evSeq_go (by simp [wants, h0, hs, hk, hlk, hB1, hB2]) (by simp [h0, hs, hk, hlk, hB1, hB2] <;> rfl) (by rfl) (by simp [hw]) ?_
        refine evSeq_go (by simp [wants, h0, hs, hk, hlk, hB1, hB2]) (by simp [h0, hs, hk, hlk, hB1, hB2] <;> rfl) (by rfl) (by simp [hw]) ?_
        refine evSeq_go (by simp [wants, h0, hs, hk, hlk, hB1, hB2]) (by simp [h0, hs, hk, hlk, hB1, hB2] <;> rfl) (by rfl) (by simp [hw]) ?_
        refine evSeq_go (by simp [wants, h0, hs, hk, hlk, hB1, hB2]) (by simp [h0, hs, hk, hlk, hB1, hB2] <;> rfl) (by rfl) (by simp [hw]) ?_
        refine evSeq_go rfl (by simp [h0, hs, hk, hlk, hB1, hB2] <;> rfl) (by rfl) (by simp [hw]) ?_
        refine evSeq_go rfl (by simp [h0, hs, hk, hlk, hB1, hB2] <;> rfl) (by rfl) (by simp [hw]) ?_
        refine evSeq_off (by simp [wants, h0, hs, hk, hlk, hB1, hB2]) (by simp [hw]) ?_
        refine evSeq_off (by simp [wants, h0, hs, hk, hlk, hB1, hB2]) (by simp [hw]) ?_
        refine evSeq_off (by simp [wants, h0, hs, hk, hlk, hB1, hB2]) (by simp [hw]) ?_
        refine evSeq_off (by simp [wants, h0, hs, hk, hlk, hB1, hB2]) (by simp [hw]) ?_
        refine evSeq_go rfl (by simp [h0, hs, hk, hlk, hB1, hB2] <;> rfl) (by rfl) (by simp [hw]) ?_
        refine evSeq_go rfl (by simp [h0, hs, hk, hlk, hB1, hB2] <;> rfl) (by rfl) (by simp [hw]) ?_
        exact evSeq_nil
      refine inSeq_norm ?_
      refine Tri.ret ?_
      simp [Ends, finish, evResults, evResult, Tryz.f65, h0, hs, hk, hlk, hB1, hB2]
    case true =>
      refine Tri.regN (t' := ?tq1tq2t2) (H' := ?Hq1tq2t2) TT_ok hC ?eq1tq2t2 ?qq1tq2t2
      case eq1tq2t2 =>
        refine go_false ?_
        refine evSeq_go rfl (by simp [h0, hs, hk, hlk, hB1, hB2] <;> rfl) (by rfl) (by simp [hw]) ?_
        refine evSeq_go rfl (by simp [h0, hs, hk, hlk, hB1, hB2] <;> rfl) (by rfl) (by simp [hw]) ?_
        refine evSeq_go rfl (by simp [h0, hs, hk, hlk, hB1, hB2] <;> rfl) (by rfl) (by simp [hw]) ?_
        refine evSeq_go (by simp [wants, h0, hs, hk, hlk, hB1, hB2]) (by simp [h0, hs, hk, hlk, hB1, hB2] <;> rfl) (by rfl) (by simp [hw]) ?_
        refine evSeq_go (by simp [wants, h0, hs, hk, hlk, hB1, hB2]) (by simp [h0, hs, hk, hlk, hB1, hB2] <;> rfl) (by rfl) (by simp [hw]) ?_
        refine evSeq_go (by simp [wants, h0, hs, hk, hlk, hB1, hB2]) (by simp [h0, hs, hk, hlk, hB1, hB2] <;> rfl) (by rfl) (by simp [hw]) ?_
        refine evSeq_go (by simp [wants, h0, hs, hk, hlk, hB1, hB2]) (by simp [h0, hs, hk, hlk, hB1, hB2] <;> rfl) (by rfl) (by simp [hw]) ?_
        refine evSeq_go (by simp [wants, h0, hs, hk, hlk, hB1, hB2]) (by simp [h0, hs, hk, hlk, hB1, hB2] <;> rfl) (by rfl) (by simp [hw]) ?_
        refine evSeq_go rfl (by simp [h0, hs, hk, hlk, hB1, hB2] <;> rfl) (by rfl) (by simp [hw]) ?_
        refine evSeq_go rfl (by simp [h0, hs, hk, hlk, hB1, hB2] <;> rfl) (by rfl) (by simp [hw]) ?_
        refine evSeq_go (by simp [wants, h0, hs, hk, hlk, hB1, hB2]) (by simp [h0, hs, hk, hlk, hB1, hB2] <;> rfl) (by rfl) (by simp [hw]) ?_
        refine evSeq_go (by simp [wants, h0, hs, hk, hlk, hB1, hB2]) (by simp [h0, hs, hk, hlk, hB1, hB2] <;> rfl) (by rfl) (by simp [hw]) ?_
        refine evSeq_go (by simp [wants, h0, hs, hk, hlk, hB1, hB2]) (by simp [h0, hs, hk, hlk, hB1, hB2] <;> rfl) (by rfl) (by simp [hw]) ?_
        refine evSeq_go (by simp [wants, h0, hs, hk, hlk, hB1, hB2]) (by simp [h0, hs, hk, hlk, hB1, hB2] <;> rfl) (by rfl) (by simp [hw]) ?_
        refine evSeq_go rfl (by simp [h0, hs, hk, hlk, hB1, hB2] <;> rfl) (by rfl) (by simp [hw]) ?_
        refine evSeq_go rfl (by simp [h0, hs, hk, hlk, hB1, hB2] <;> rfl) (by rfl) (by simp [hw]) ?_
        exact evSeq_nil
      refine inSeq_norm ?_
      refine Tri.ret ?_
      simp [Ends, finish, evResults, evResult, Tryz.f65, h0, hs, hk, hlk, hB1, hB2]
theorem body_35nf {call : CallF} (hC : call.Sound Tryz.prog TT) (s : List UInt8) (sg : UInt8 → Bool) (h2 : ∀ c H, call 75 [.s [43, 45], .s [c]] H = .val (.b (sg c)) H) (a2 b2 : List UInt8) (f2 qa qb : Bool) (da : ∀ H, call 73 [.s a2] H = .val (.b qa) H) (db : ∀ H, call 73 [.s b2] H = .val (.b qb) H) (b : List UInt8) (a : List UInt8) (hl : decide ((20000 : Int) < s.length) = false) (h1 : ∀ H, call 74 [.s s, .s [101]] H = .val (.tup [.s a, .s b, .b false]) H) (h3 : ∀ H, call 74 [.s a, .s [46]] H = .val (.tup [.s a2, .s b2, .b f2]) H)  : EBody Tryz.prog TT 49 [.s s] (fun r => ∃ b : Bool, r = .val (.b b)) := by
  refine ⟨Tryz.f49, _, rfl, rfl, by simp [Tryz.f49], ?_⟩
  have h0 : (Tm.init Tryz.f49.ntmps [.s s]).get 0 = .s s := by rw [get_init]; rfl
  have hw : (Tm.init Tryz.f49.ntmps [.s s]).wid = 53 := rfl
  generalize Tm.init Tryz.f49.ntmps [.s s] = t at *
  try simp only [Nd.enc_eq] at *
  refine Tri.seq' ?_
  refine Tri.regN (t' := ?t1) (H' := ?H1) TT_ok hC ?e1 ?q1
  case e1 =>
    refine go_false ?_
    refine evSeq_go rfl (by simp [h0, h1, da, db, h2, h3, hl] <;> rfl) (by rfl) (by simp [hw]) ?_
    exact evSeq_nil
  refine inSeq_norm ?_
  refine Tri.seq' ?_
  refine Tri.seq' ?_
  refine Tri.regN (t' := ?t2) (H' := ?H2) TT_ok hC ?e2 ?q2
  case e2 =>
    refine go_false ?_
    refine evSeq_go rfl (by simp [h0, h1, da, db, h2, h3, hl] <;> rfl) (by rfl) (by simp [hw]) ?_
    refine evSeq_go rfl (by simp [h0, h1, da, db, h2, h3, hl] <;> rfl) (by rfl) (by simp [hw]) ?_
    refine evSeq_go rfl (by simp [h0, h1, da, db, h2, h3, hl] <;> rfl) (by rfl) (by simp [hw]) ?_
    exact evSeq_nil
  refine inSeq_norm ?_
  refine Tri.condG (o := ?o3) (b := ?b3) ?g3 ?r3 ?y3 ?n3
  case g3 => simp [h0, h1, da, db, h2, h3, hl] <;> rfl
  case r3 => rfl
  case y3 =>
    intro hy3
    exact absurd hy3 (by simp [h0, h1, da, db, h2, h3, hl])
  case n3 =>
    intro hn3
    refine Tri.skip ?_
    refine inSeq_norm ?_
    refine Tri.seq' ?_
    refine Tri.regN (t' := ?t4) (H' := ?H4) TT_ok hC ?e4 ?q4
    case e4 =>
      refine go_false ?_
      refine evSeq_go rfl (by simp [h0, h1, da, db, h2, h3, hl] <;> rfl) (by rfl) (by simp [hw]) ?_
      refine evSeq_go rfl (by simp [h0, h1, da, db, h2, h3, hl] <;> rfl) (by rfl) (by simp [hw]) ?_
      refine evSeq_go rfl (by simp [h0, h1, da, db, h2, h3, hl] <;> rfl) (by rfl) (by simp [hw]) ?_
      refine evSeq_go rfl (by simp [h0, h1, da, db, h2, h3, hl] <;> rfl) (by rfl) (by simp [hw]) ?_
      refine evSeq_go rfl (by simp [h0, h1, da, db, h2, h3, hl] <;> rfl) (by rfl) (by simp [hw]) ?_
      refine evSeq_go rfl (by simp [h0, h1, da, db, h2, h3, hl] <;> rfl) (by rfl) (by simp [hw]) ?_
      refine evSeq_go rfl (by simp [h0, h1, da, db, h2, h3, hl] <;> rfl) (by rfl) (by simp [hw]) ?_
      refine evSeq_go rfl (by simp [h0, h1, da, db, h2, h3, hl] <;> rfl) (by rfl) (by simp [hw]) ?_
      refine evSeq_go rfl (by simp [h0, h1, da, db, h2, h3, hl] <;> rfl) (by rfl) (by simp [hw]) ?_
      exact evSeq_nil
    refine inSeq_norm ?_
    refine Tri.seq' ?_
    refine Tri.seq' ?_
    refine Tri.regN (t' := ?t5) (H' := ?H5) TT_ok hC ?e5 ?q5
    case e5 =>
      refine go_false ?_
      refine evSeq_go rfl (by simp [h0, h1, da, db, h2, h3, hl] <;> rfl) (by rfl) (by simp [hw]) ?_
      exact evSeq_nil
    refine inSeq_norm ?_
    refine Tri.condG (o := ?o6) (b := ?b6) ?g6 ?r6 ?y6 ?n6
    case g6 => simp [h0, h1, da, db, h2, h3, hl] <;> rfl
    case r6 => rfl
    case y6 =>
      intro hy6
      exact absurd hy6 (by simp [h0, h1, da, db, h2, h3, hl])
    case n6 =>
      intro hn6
      refine Tri.skip ?_
      refine inSeq_norm ?_
      refine Tri.seq' ?_
      refine Tri.regN (t' := ?t7) (H' := ?H7) TT_ok hC ?e7 ?q7
      case e7 =>
        refine go_false ?_
        refine evSeq_go rfl (by simp [h0, h1, da, db, h2, h3, hl] <;> rfl) (by rfl) (by simp [hw]) ?_
        refine evSeq_go rfl (by simp [h0, h1, da, db, h2, h3, hl] <;> rfl) (by rfl) (by simp [hw]) ?_
        refine evSeq_go rfl (by simp [h0, h1, da, db, h2, h3, hl] <;> rfl) (by rfl) (by simp [hw]) ?_
        refine evSeq_go rfl (by simp [h0, h1, da, db, h2, h3, hl] <;> rfl) (by rfl) (by simp [hw]) ?_
        refine evSeq_go rfl (by simp [h0, h1, da, db, h2, h3, hl] <;> rfl) (by rfl) (by simp [hw]) ?_
        refine evSeq_go rfl (by simp [h0, h1, da, db, h2, h3, hl] <;> rfl) (by rfl) (by simp [hw]) ?_
        refine evSeq_go rfl (by simp [h0, h1, da, db, h2, h3, hl] <;> rfl) (by rfl) (by simp [hw]) ?_
        refine evSeq_go rfl (by simp [h0, h1, da, db, h2, h3, hl] <;> rfl) (by rfl) (by simp [hw]) ?_
        refine evSeq_go rfl (by simp [h0, h1, da, db, h2, h3, hl] <;> rfl) (by rfl) (by simp [hw]) ?_
        exact evSeq_nil
      refine inSeq_norm ?_
      refine Tri.seq' ?_
      cases hB1 : (qa : Bool)
      case false =>
        refine Tri.regN (t' := ?tq1f8) (H' := ?Hq1f8) TT_ok hC ?eq1f8 ?qq1f8
        case eq1f8 =>
          refine go_false ?_
          refine evSeq_go rfl (by simp [h0, h1, da, db, h2, h3, hl, hB1] <;> rfl) (by rfl) (by simp [hw]) ?_
          refine evSeq_go rfl (by simp [h0, h1, da, db, h2, h3, hl, hB1] <;> rfl) (by rfl) (by simp [hw]) ?_
          refine evSeq_go rfl (by simp [h0, h1, da, db, h2, h3, hl, hB1] <;> rfl) (by rfl) (by simp [hw]) ?_
          refine evSeq_off (by simp [wants, h0, h1, da, db, h2, h3, hl, hB1]) (by simp [hw]) ?_
          refine evSeq_off (by simp [wants, h0, h1, da, db, h2, h3, hl, hB1]) (by simp [hw]) ?_
          refine evSeq_off (by simp [wants, h0, h1, da, db, h2, h3, hl, hB1]) (by simp [hw]) ?_
          refine evSeq_off (by simp [wants, h0, h1, da, db, h2, h3, hl, hB1]) (by simp [hw]) ?_
          refine evSeq_off (by simp [wants, h0, h1, da, db, h2, h3, hl, hB1]) (by simp [hw]) ?_
          refine evSeq_off (by simp [wants, h0, h1, da, db, h2, h3, hl, hB1]) (by simp [hw]) ?_
          refine evSeq_off (by simp [wants, h0, h1, da, db, h2, h3, hl, hB1]) (by simp [hw]) ?_
          refine evSeq_off (by simp [wants, h0, h1, da, db, h2, h3, hl, hB1]) (by simp [hw]) ?_
          refine evSeq_off (by simp [wants, h0, h1, da, db, h2, h3, hl, hB1]) (by simp [hw]) ?_
          refine evSeq_off (by simp [wants, h0, h1, da, db, h2, h3, hl, hB1]) (by simp [hw]) ?_
          refine evSeq_off (by simp [wants, h0, h1, da, db, h2, h3, hl, hB1]) (by simp [hw]) ?_
          refine evSeq_off (by simp [wants, h0, h1, da, db, h2, h3, hl, hB1]) (by simp [hw]) ?_
          refine evSeq_go rfl (by simp [h0, h1, da, db, h2, h3, hl, hB1] <;> rfl) (by rfl) (by simp [hw]) ?_
          refine evSeq_go rfl (by simp [h0, h1, da, db, h2, h3, hl, hB1] <;> rfl) (by rfl) (by simp [hw]) ?_
          exact evSeq_nil
        refine inSeq_norm ?_
        refine Tri.ret ?_
        exact endsB (by simp [finish, evResults, evResult, Tryz.f49] <;> rfl) (by rfl)
      case true =>
        cases hB2 : (f2 : Bool)
        case false =>
          refine Tri.regN (t' := ?tq1tq2f8) (H' := ?Hq1tq2f8) TT_ok hC ?eq1tq2f8 ?qq1tq2f8
          case eq1tq2f8 =>
            refine go_false ?_
            refine evSeq_go rfl (by simp [h0, h1, da, db, h2, h3, hl, hB1, hB2] <;> rfl) (by rfl) (by simp [hw]) ?_
            refine evSeq_go rfl (by simp [h0, h1, da, db, h2, h3, hl, hB1, hB2] <;> rfl) (by rfl) (by simp [hw]) ?_
            refine evSeq_go rfl (by simp [h0, h1, da, db, h2, h3, hl, hB1, hB2] <;> rfl) (by rfl) (by simp [hw]) ?_
            refine evSeq_go (by simp [wants, h0, h1, da, db, h2, h3, hl, hB1, hB2]) (by simp [h0, h1, da, db, h2, h3, hl, hB1, hB2] <;> rfl) (by rfl) (by simp [hw]) ?_
            refine evSeq_go (by simp [wants, h0, h1, da, db, h2, h3, hl, hB1, hB2]) (by simp [h0, h1, da, db, h2, h3, hl, hB1, hB2] <;> rfl) (by rfl) (by simp [hw]) ?_
            refine evSeq_off (by simp [wants, h0, h1, da, db, h2, h3, hl, hB1, hB2]) (by simp [hw]) ?_
            refine evSeq_off (by simp [wants, h0, h1, da, db, h2, h3, hl, hB1, hB2]) (by simp [hw]) ?_
            refine evSeq_go (by simp [wants, h0, h1, da, db, h2, h3, hl, hB1, hB2]) (by simp [h0, h1, da, db, h2, h3, hl, hB1, hB2] <;> rfl) (by rfl) (by simp [hw]) ?_
            refine evSeq_go (by simp [wants, h0, h1, da, db, h2, h3, hl, hB1, hB2]) (by simp [h0, h1, da, db, h2, h3, hl, hB1, hB2] <;> rfl) (by rfl) (by simp [hw]) ?_
            refine evSeq_go (by simp [wants, h0, h1, da, db, h2, h3, hl, hB1, hB2]) (by simp [h0, h1, da, db, h2, h3, hl, hB1, hB2] <;> rfl) (by rfl) (by simp [hw]) ?_
            refine evSeq_go (by simp [wants, h0, h1, da, db, h2, h3, hl, hB1, hB2]) (by simp [h0, h1, da, db, h2, h3, hl, hB1, hB2] <;> rfl) (by rfl) (by simp [hw]) ?_
            refine evSeq_go (by simp [wants, h0, h1, da, db, h2, h3, hl, hB1, hB2]) (by simp [h0, h1, da, db, h2, h3, hl, hB1, hB2] <;> rfl) (by rfl) (by simp [hw]) ?_
            refine evSeq_go (by simp [wants, h0, h1, da, db, h2, h3, hl, hB1, hB2]) (by simp [h0, h1, da, db, h2, h3, hl, hB1, hB2] <;> rfl) (by rfl) (by simp [hw]) ?_
            refine evSeq_go (by simp [wants, h0, h1, da, db, h2, h3, hl, hB1, hB2]) (by simp [h0, h1, da, db, h2, h3, hl, hB1, hB2] <;> rfl) (by rfl) (by simp [hw]) ?_
            refine evSeq_go (by simp [wants, h0, h1, da, db, h2, h3, hl, hB1, hB2]) (by simp [h0, h1, da, db, h2, h3, hl, hB1, hB2] <;> rfl) (by rfl) (by simp [hw]) ?_
            refine evSeq_go rfl (by simp [h0, h1, da, db, h2, h3, hl, hB1, hB2] <;> rfl) (by rfl) (by simp [hw]) ?_
            refine evSeq_go rfl (by simp [h0, h1, da, db, h2, h3, hl, hB1, hB2] <;> rfl) (by rfl) (by simp [hw]) ?_
            exact evSeq_nil
          refine inSeq_norm ?_
          refine Tri.ret ?_
          exact endsB (by simp [finish, evResults, evResult, Tryz.f49] <;> rfl) (by rfl)
        case true =>
          cases hB3 : (qb : Bool)
          case false =>
            refine Tri.regN (t' := ?tq1tq2tq3f8) (H' := ?Hq1tq2tq3f8) TT_ok hC ?eq1tq2tq3f8 ?qq1tq2tq3f8
            case eq1tq2tq3f8 =>
              refine go_false ?_
              refine evSeq_go rfl (by simp [h0, h1, da, db, h2, h3, hl, hB1, hB2, hB3] <;> rfl) (by rfl) (by simp [hw]) ?_
              refine evSeq_go rfl (by simp [h0, h1, da, db, h2, h3, hl, hB1, hB2, hB3] <;> rfl) (by rfl) (by simp [hw]) ?_
              refine evSeq_go rfl (by simp [h0, h1, da, db, h2, h3, hl, hB1, hB2, hB3] <;> rfl) (by rfl) (by simp [hw]) ?_
              refine evSeq_go (by simp [wants, h0, h1, da, db, h2, h3, hl, hB1, hB2, hB3]) (by simp [h0, h1, da, db, h2, h3, hl, hB1, hB2, hB3] <;> rfl) (by rfl) (by simp [hw]) ?_
              refine evSeq_go (by simp [wants, h0, h1, da, db, h2, h3, hl, hB1, hB2, hB3]) (by simp [h0, h1, da, db, h2, h3, hl, hB1, hB2, hB3] <;> rfl) (by rfl) (by simp [hw]) ?_
              refine evSeq_go (by simp [wants, h0, h1, da, db, h2, h3, hl, hB1, hB2, hB3]) (by simp [h0, h1, da, db, h2, h3, hl, hB1, hB2, hB3] <;> rfl) (by rfl) (by simp [hw]) ?_
              refine evSeq_go (by simp [wants, h0, h1, da, db, h2, h3, hl, hB1, hB2, hB3]) (by simp [h0, h1, da, db, h2, h3, hl, hB1, hB2, hB3] <;> rfl) (by rfl) (by simp [hw]) ?_
              refine evSeq_go (by simp [wants, h0, h1, da, db, h2, h3, hl, hB1, hB2, hB3]) (by simp [h0, h1, da, db, h2, h3, hl, hB1, hB2, hB3] <;> rfl) (by rfl) (by simp [hw]) ?_
              refine evSeq_go (by simp [wants, h0, h1, da, db, h2, h3, hl, hB1, hB2, hB3]) (by simp [h0, h1, da, db, h2, h3, hl, hB1, hB2, hB3] <;> rfl) (by rfl) (by simp [hw]) ?_
              refine evSeq_go (by simp [wants, h0, h1, da, db, h2, h3, hl, hB1, hB2, hB3]) (by simp [h0, h1, da, db, h2, h3, hl, hB1, hB2, hB3] <;> rfl) (by rfl) (by simp [hw]) ?_
              refine evSeq_go (by simp [wants, h0, h1, da, db, h2, h3, hl, hB1, hB2, hB3]) (by simp [h0, h1, da, db, h2, h3, hl, hB1, hB2, hB3] <;> rfl) (by rfl) (by simp [hw]) ?_
              refine evSeq_go (by simp [wants, h0, h1, da, db, h2, h3, hl, hB1, hB2, hB3]) (by simp [h0, h1, da, db, h2, h3, hl, hB1, hB2, hB3] <;> rfl) (by rfl) (by simp [hw]) ?_
              refine evSeq_off (by simp [wants, h0, h1, da, db, h2, h3, hl, hB1, hB2, hB3]) (by simp [hw]) ?_
              refine evSeq_go (by simp [wants, h0, h1, da, db, h2, h3, hl, hB1, hB2, hB3]) (by simp [h0, h1, da, db, h2, h3, hl, hB1, hB2, hB3] <;> rfl) (by rfl) (by simp [hw]) ?_
              refine evSeq_go (by simp [wants, h0, h1, da, db, h2, h3, hl, hB1, hB2, hB3]) (by simp [h0, h1, da, db, h2, h3, hl, hB1, hB2, hB3] <;> rfl) (by rfl) (by simp [hw]) ?_
              refine evSeq_go rfl (by simp [h0, h1, da, db, h2, h3, hl, hB1, hB2, hB3] <;> rfl) (by rfl) (by simp [hw]) ?_
              refine evSeq_go rfl (by simp [h0, h1, da, db, h2, h3, hl, hB1, hB2, hB3] <;> rfl) (by rfl) (by simp [hw]) ?_
              exact evSeq_nil
            refine inSeq_norm ?_
            refine Tri.ret ?_
            exact endsB (by simp [finish, evResults, evResult, Tryz.f49] <;> rfl) (by rfl)
          case true =>
            refine Tri.regN (t' := ?tq1tq2tq3t8) (H' := ?Hq1tq2tq3t8) TT_ok hC ?eq1tq2tq3t8 ?qq1tq2tq3t8
            case eq1tq2tq3t8 =>
              refine go_false ?_
              refine evSeq_go rfl (by simp [h0, h1, da, db, h2, h3, hl, hB1, hB2, hB3] <;> rfl) (by rfl) (by simp [hw]) ?_
              refine evSeq_go rfl (by simp [h0, h1, da, db, h2, h3, hl, hB1, hB2, hB3] <;> rfl) (by rfl) (by simp [hw]) ?_
              refine evSeq_go rfl (by simp [h0, h1, da, db, h2, h3, hl, hB1, hB2, hB3] <;> rfl) (by rfl) (by simp [hw]) ?_
              refine evSeq_go (by simp [wants, h0, h1, da, db, h2, h3, hl, hB1, hB2, hB3]) (by simp [h0, h1, da, db, h2, h3, hl, hB1, hB2, hB3] <;> rfl) (by rfl) (by simp [hw]) ?_
              refine evSeq_go (by simp [wants, h0, h1, da, db, h2, h3, hl, hB1, hB2, hB3]) (by simp [h0, h1, da, db, h2, h3, hl, hB1, hB2, hB3] <;> rfl) (by rfl) (by simp [hw]) ?_
              refine evSeq_go (by simp [wants, h0, h1, da, db, h2, h3, hl, hB1, hB2, hB3]) (by simp [h0, h1, da, db, h2, h3, hl, hB1, hB2, hB3] <;> rfl) (by rfl) (by simp [hw]) ?_
              refine evSeq_go (by simp [wants, h0, h1, da, db, h2, h3, hl, hB1, hB2, hB3]) (by simp [h0, h1, da, db, h2, h3, hl, hB1, hB2, hB3] <;> rfl) (by rfl) (by simp [hw]) ?_
              refine evSeq_go (by simp [wants, h0, h1, da, db, h2, h3, hl, hB1, hB2, hB3]) (by simp [h0, h1, da, db, h2, h3, hl, hB1, hB2, hB3] <;> rfl) (by rfl) (by simp [hw]) ?_
              refine evSeq_go (by simp [wants, h0, h1, da, db, h2, h3, hl, hB1, hB2, hB3]) (by simp [h0, h1, da, db, h2, h3, hl, hB1, hB2, hB3] <;> rfl) (by rfl) (by simp [hw]) ?_
              refine evSeq_off (by simp [wants, h0, h1, da, db, h2, h3, hl, hB1, hB2, hB3]) (by simp [hw]) ?_
              refine evSeq_off (by simp [wants, h0, h1, da, db, h2, h3, hl, hB1, hB2, hB3]) (by simp [hw]) ?_
              refine evSeq_off (by simp [wants, h0, h1, da, db, h2, h3, hl, hB1, hB2, hB3]) (by simp [hw]) ?_
              refine evSeq_off (by simp [wants, h0, h1, da, db, h2, h3, hl, hB1, hB2, hB3]) (by simp [hw]) ?_
              refine evSeq_off (by simp [wants, h0, h1, da, db, h2, h3, hl, hB1, hB2, hB3]) (by simp [hw]) ?_
              refine evSeq_go (by simp [wants, h0, h1, da, db, h2, h3, hl, hB1, hB2, hB3]) (by simp [h0, h1, da, db, h2, h3, hl, hB1, hB2, hB3] <;> rfl) (by rfl) (by simp [hw]) ?_
              refine evSeq_go rfl (by simp [h0, h1, da, db, h2, h3, hl, hB1, hB2, hB3] <;> rfl) (by rfl) (by simp [hw]) ?_
              refine evSeq_go rfl (by simp [h0, h1, da, db, h2, h3, hl, hB1, hB2, hB3] <;> rfl) (by rfl) (by simp [hw]) ?_
              exact evSeq_nil
            refine inSeq_norm ?_
            refine Tri.ret ?_
            exact endsB (by simp [finish, evResults, evResult, Tryz.f49] <;> rfl) (by rfl)
theorem body_35e {call : CallF} (hC : call.Sound Tryz.prog TT) (s : List UInt8) (sg : UInt8 → Bool) (h2 : ∀ c H, call 75 [.s [43, 45], .s [c]] H = .val (.b (sg c)) H) (a2 b2 : List UInt8) (f2 qa qb : Bool) (da : ∀ H, call 73 [.s a2] H = .val (.b qa) H) (db : ∀ H, call 73 [.s b2] H = .val (.b qb) H) (qc : Bool) (dc : ∀ H, call 73 [.s []] H = .val (.b qc) H) (a : List UInt8) (hl : decide ((20000 : Int) < s.length) = false) (h1 : ∀ H, call 74 [.s s, .s [101]] H = .val (.tup [.s a, .s [], .b true]) H) (h3 : ∀ H, call 74 [.s a, .s [46]] H = .val (.tup [.s a2, .s b2, .b f2]) H)  : EBody Tryz.prog TT 49 [.s s] (fun r => ∃ b : Bool, r = .val (.b b)) := by
  refine ⟨Tryz.f49, _, rfl, rfl, by simp [Tryz.f49], ?_⟩
  have h0 : (Tm.init Tryz.f49.ntmps [.s s]).get 0 = .s s := by rw [get_init]; rfl
  have hw : (Tm.init Tryz.f49.ntmps [.s s]).wid = 53 := rfl
  generalize Tm.init Tryz.f49.ntmps [.s s] = t at *
  try simp only [Nd.enc_eq] at *
  refine Tri.seq' ?_
  refine Tri.regN (t' := ?t1) (H' := ?H1) TT_ok hC ?e1 ?q1
  case e1 =>
    refine go_false ?_
    refine evSeq_go rfl (by simp [h0, h1, da, db, h2, h3, hl, dc] <;> rfl) (by rfl) (by simp [hw]) ?_
    exact evSeq_nil
  refine inSeq_norm ?_
  refine Tri.seq' ?_
  refine Tri.seq' ?_
  refine Tri.regN (t' := ?t2) (H' := ?H2) TT_ok hC ?e2 ?q2
  case e2 =>
    refine go_false ?_
    refine evSeq_go rfl (by simp [h0, h1, da, db, h2, h3, hl, dc] <;> rfl) (by rfl) (by simp [hw]) ?_
    refine evSeq_go rfl (by simp [h0, h1, da, db, h2, h3, hl, dc] <;> rfl) (by rfl) (by simp [hw]) ?_
    refine evSeq_go rfl (by simp [h0, h1, da, db, h2, h3, hl, dc] <;> rfl) (by rfl) (by simp [hw]) ?_
    exact evSeq_nil
  refine inSeq_norm ?_
  refine Tri.condG (o := ?o3) (b := ?b3) ?g3 ?r3 ?y3 ?n3
  case g3 => simp [h0, h1, da, db, h2, h3, hl, dc] <;> rfl
  case r3 => rfl
  case y3 =>
    intro hy3
    exact absurd hy3 (by simp [h0, h1, da, db, h2, h3, hl, dc])
  case n3 =>
    intro hn3
    refine Tri.skip ?_
    refine inSeq_norm ?_
    refine Tri.seq' ?_
    refine Tri.regN (t' := ?t4) (H' := ?H4) TT_ok hC ?e4 ?q4
    case e4 =>
      refine go_false ?_
      refine evSeq_go rfl (by simp [h0, h1, da, db, h2, h3, hl, dc] <;> rfl) (by rfl) (by simp [hw]) ?_
      refine evSeq_go rfl (by simp [h0, h1, da, db, h2, h3, hl, dc] <;> rfl) (by rfl) (by simp [hw]) ?_
      refine evSeq_go rfl (by simp [h0, h1, da, db, h2, h3, hl, dc] <;> rfl) (by rfl) (by simp [hw]) ?_
      refine evSeq_go rfl (by simp [h0, h1, da, db, h2, h3, hl, dc] <;> rfl) (by rfl) (by simp [hw]) ?_
      refine evSeq_go rfl (by simp [h0, h1, da, db, h2, h3, hl, dc] <;> rfl) (by rfl) (by simp [hw]) ?_
      refine evSeq_go rfl (by simp [h0, h1, da, db, h2, h3, hl, dc] <;> rfl) (by rfl) (by simp [hw]) ?_
      refine evSeq_go rfl (by simp [h0, h1, da, db, h2, h3, hl, dc] <;> rfl) (by rfl) (by simp [hw]) ?_
      refine evSeq_go rfl (by simp [h0, h1, da, db, h2, h3, hl, dc] <;> rfl) (by rfl) (by simp [hw]) ?_
      refine evSeq_go rfl (by simp [h0, h1, da, db, h2, h3, hl, dc] <;> rfl) (by rfl) (by simp [hw]) ?_
      exact evSeq_nil
    refine inSeq_norm ?_
    refine Tri.seq' ?_
    refine Tri.seq' ?_
    refine Tri.regN (t' := ?t5) (H' := ?H5) TT_ok hC ?e5 ?q5
    case e5 =>
      refine go_false ?_
      refine evSeq_go rfl (by simp [h0, h1, da, db, h2, h3, hl, dc] <;> rfl) (by rfl) (by simp [hw]) ?_
      exact evSeq_nil
    refine inSeq_norm ?_
    refine Tri.condG (o := ?o6) (b := ?b6) ?g6 ?r6 ?y6 ?n6
    case g6 => simp [h0, h1, da, db, h2, h3, hl, dc] <;> rfl
    case r6 => rfl
    case y6 =>
      intro hy6
      refine Tri.seq' ?_
      refine Tri.seq' ?_
      refine Tri.regN (t' := ?t7) (H' := ?H7) TT_ok hC ?e7 ?q7
      case e7 =>
        refine go_false ?_
        refine evSeq_go rfl (by simp [h0, h1, da, db, h2, h3, hl, dc] <;> rfl) (by rfl) (by simp [hw]) ?_
        refine evSeq_go rfl (by simp [h0, h1, da, db, h2, h3, hl, dc] <;> rfl) (by rfl) (by simp [hw]) ?_
        refine evSeq_go rfl (by simp [h0, h1, da, db, h2, h3, hl, dc] <;> rfl) (by rfl) (by simp [hw]) ?_
        refine evSeq_off (by simp [wants, h0, h1, da, db, h2, h3, hl, dc]) (by simp [hw]) ?_
        refine evSeq_off (by simp [wants, h0, h1, da, db, h2, h3, hl, dc]) (by simp [hw]) ?_
        refine evSeq_off (by simp [wants, h0, h1, da, db, h2, h3, hl, dc]) (by simp [hw]) ?_
        refine evSeq_go rfl (by simp [h0, h1, da, db, h2, h3, hl, dc] <;> rfl) (by rfl) (by simp [hw]) ?_
        exact evSeq_nil
      refine inSeq_norm ?_
      refine Tri.condG (o := ?o8) (b := ?b8) ?g8 ?r8 ?y8 ?n8
      case g8 => simp [h0, h1, da, db, h2, h3, hl, dc] <;> rfl
      case r8 => rfl
      case y8 =>
        intro hy8
        exact absurd hy8 (by simp [h0, h1, da, db, h2, h3, hl, dc])
      case n8 =>
        intro hn8
        refine Tri.skip ?_
        refine inSeq_norm ?_
        refine Tri.seq' ?_
        refine Tri.regN (t' := ?t9) (H' := ?H9) TT_ok hC ?e9 ?q9
        case e9 =>
          refine go_false ?_
          refine evSeq_go rfl (by simp [h0, h1, da, db, h2, h3, hl, dc] <;> rfl) (by rfl) (by simp [hw]) ?_
          refine evSeq_go rfl (by simp [h0, h1, da, db, h2, h3, hl, dc] <;> rfl) (by rfl) (by simp [hw]) ?_
          refine evSeq_go rfl (by simp [h0, h1, da, db, h2, h3, hl, dc] <;> rfl) (by rfl) (by simp [hw]) ?_
          exact evSeq_nil
        refine inSeq_norm ?_
        refine Tri.condG (o := ?o10) (b := ?b10) ?g10 ?r10 ?y10 ?n10
        case g10 => simp [h0, h1, da, db, h2, h3, hl, dc] <;> rfl
        case r10 => rfl
        case y10 =>
          intro hy10
          refine Tri.seq' ?_
          refine Tri.regN (t' := ?t11) (H' := ?H11) TT_ok hC ?e11 ?q11
          case e11 =>
            refine go_false ?_
            refine evSeq_go rfl (by simp [h0, h1, da, db, h2, h3, hl, dc, hy10] <;> rfl) (by rfl) (by simp [hw]) ?_
            exact evSeq_nil
          refine inSeq_norm ?_
          refine Tri.ret ?_
          refine inSeq_ret ?_
          exact endsB (by simp [finish, evResults, evResult, Tryz.f49] <;> rfl) (by rfl)
        case n10 =>
          intro hn10
          refine Tri.skip ?_
          refine inSeq_norm ?_
          refine Tri.seq' ?_
          refine Tri.regN (t' := ?t12) (H' := ?H12) TT_ok hC ?e12 ?q12
          case e12 =>
            refine go_false ?_
            refine evSeq_go rfl (by simp [h0, h1, da, db, h2, h3, hl, dc, hn10] <;> rfl) (by rfl) (by simp [hw]) ?_
            refine evSeq_go rfl (by simp [h0, h1, da, db, h2, h3, hl, dc, hn10] <;> rfl) (by rfl) (by simp [hw]) ?_
            refine evSeq_go rfl (by simp [h0, h1, da, db, h2, h3, hl, dc, hn10] <;> rfl) (by rfl) (by simp [hw]) ?_
            refine evSeq_go rfl (by simp [h0, h1, da, db, h2, h3, hl, dc, hn10] <;> rfl) (by rfl) (by simp [hw]) ?_
            refine evSeq_go rfl (by simp [h0, h1, da, db, h2, h3, hl, dc, hn10] <;> rfl) (by rfl) (by simp [hw]) ?_
            refine evSeq_go rfl (by simp [h0, h1, da, db, h2, h3, hl, dc, hn10] <;> rfl) (by rfl) (by simp [hw]) ?_
            refine evSeq_go rfl (by simp [h0, h1, da, db, h2, h3, hl, dc, hn10] <;> rfl) (by rfl) (by simp [hw]) ?_
            refine evSeq_go rfl (by simp [h0, h1, da, db, h2, h3, hl, dc, hn10] <;> rfl) (by rfl) (by simp [hw]) ?_
            refine evSeq_go rfl (by simp [h0, h1, da, db, h2, h3, hl, dc, hn10] <;> rfl) (by rfl) (by simp [hw]) ?_
            exact evSeq_nil
          refine inSeq_norm ?_
          refine Tri.seq' ?_
          cases hB1 : (qa : Bool)
          case false =>
            refine Tri.regN (t' := ?tq1f13) (H' := ?Hq1f13) TT_ok hC ?eq1f13 ?qq1f13
            case eq1f13 =>
              refine go_false ?_
              refine evSeq_go rfl (by simp [h0, h1, da, db, h2, h3, hl, dc, hn10, hB1] <;> rfl) (by rfl) (by simp [hw]) ?_
              refine evSeq_go rfl (by simp [h0, h1, da, db, h2, h3, hl, dc, hn10, hB1] <;> rfl) (by rfl) (by simp [hw]) ?_
              refine evSeq_go rfl (by simp [h0, h1, da, db, h2, h3, hl, dc, hn10, hB1] <;> rfl) (by rfl) (by simp [hw]) ?_
              refine evSeq_off (by simp [wants, h0, h1, da, db, h2, h3, hl, dc, hn10, hB1]) (by simp [hw]) ?_
              refine evSeq_off (by simp [wants, h0, h1, da, db, h2, h3, hl, dc, hn10, hB1]) (by simp [hw]) ?_
              refine evSeq_off (by simp [wants, h0, h1, da, db, h2, h3, hl, dc, hn10, hB1]) (by simp [hw]) ?_
              refine evSeq_off (by simp [wants, h0, h1, da, db, h2, h3, hl, dc, hn10, hB1]) (by simp [hw]) ?_
              refine evSeq_off (by simp [wants, h0, h1, da, db, h2, h3, hl, dc, hn10, hB1]) (by simp [hw]) ?_
              refine evSeq_off (by simp [wants, h0, h1, da, db, h2, h3, hl, dc, hn10, hB1]) (by simp [hw]) ?_
              refine evSeq_off (by simp [wants, h0, h1, da, db, h2, h3, hl, dc, hn10, hB1]) (by simp [hw]) ?_
              refine evSeq_off (by simp [wants, h0, h1, da, db, h2, h3, hl, dc, hn10, hB1]) (by simp [hw]) ?_
              refine evSeq_off (by simp [wants, h0, h1, da, db, h2, h3, hl, dc, hn10, hB1]) (by simp [hw]) ?_
              refine evSeq_off (by simp [wants, h0, h1, da, db, h2, h3, hl, dc, hn10, hB1]) (by simp [hw]) ?_
              refine evSeq_off (by simp [wants, h0, h1, da, db, h2, h3, hl, dc, hn10, hB1]) (by simp [hw]) ?_
              refine evSeq_off (by simp [wants, h0, h1, da, db, h2, h3, hl, dc, hn10, hB1]) (by simp [hw]) ?_
              refine evSeq_go rfl (by simp [h0, h1, da, db, h2, h3, hl, dc, hn10, hB1] <;> rfl) (by rfl) (by simp [hw]) ?_
              refine evSeq_go rfl (by simp [h0, h1, da, db, h2, h3, hl, dc, hn10, hB1] <;> rfl) (by rfl) (by simp [hw]) ?_
              exact evSeq_nil
            refine inSeq_norm ?_
            refine Tri.ret ?_
            exact endsB (by simp [finish, evResults, evResult, Tryz.f49] <;> rfl) (by rfl)
          case true =>
            cases hB2 : (f2 : Bool)
            case false =>
              refine Tri.regN (t' := ?tq1tq2f13) (H' := ?Hq1tq2f13) TT_ok hC ?eq1tq2f13 ?qq1tq2f13
              case eq1tq2f13 =>
                refine go_false ?_
                refine evSeq_go rfl (by simp [h0, h1, da, db, h2, h3, hl, dc, hn10, hB1, hB2] <;> rfl) (by rfl) (by simp [hw]) ?_
                refine evSeq_go rfl (by simp [h0, h1, da, db, h2, h3, hl, dc, hn10, hB1, hB2] <;> rfl) (by rfl) (by simp [hw]) ?_
                refine evSeq_go rfl (by simp [h0, h1, da, db, h2, h3, hl, dc, hn10, hB1, hB2] <;> rfl) (by rfl) (by simp [hw]) ?_
                refine evSeq_go (by simp [wants, h0, h1, da, db, h2, h3, hl, dc, hn10, hB1, hB2]) (by simp [h0, h1, da, db, h2, h3, hl, dc, hn10, hB1, hB2] <;> rfl) (by rfl) (by simp [hw]) ?_
                refine evSeq_go (by simp [wants, h0, h1, da, db, h2, h3, hl, dc, hn10, hB1, hB2]) (by simp [h0, h1, da, db, h2, h3, hl, dc, hn10, hB1, hB2] <;> rfl) (by rfl) (by simp [hw]) ?_
                refine evSeq_off (by simp [wants, h0, h1, da, db, h2, h3, hl, dc, hn10, hB1, hB2]) (by simp [hw]) ?_
                refine evSeq_off (by simp [wants, h0, h1, da, db, h2, h3, hl, dc, hn10, hB1, hB2]) (by simp [hw]) ?_
                refine evSeq_go (by simp [wants, h0, h1, da, db, h2, h3, hl, dc, hn10, hB1, hB2]) (by simp [h0, h1, da, db, h2, h3, hl, dc, hn10, hB1, hB2] <;> rfl) (by rfl) (by simp [hw]) ?_
                refine evSeq_go (by simp [wants, h0, h1, da, db, h2, h3, hl, dc, hn10, hB1, hB2]) (by simp [h0, h1, da, db, h2, h3, hl, dc, hn10, hB1, hB2] <;> rfl) (by rfl) (by simp [hw]) ?_
                refine evSeq_go (by simp [wants, h0, h1, da, db, h2, h3, hl, dc, hn10, hB1, hB2]) (by simp [h0, h1, da, db, h2, h3, hl, dc, hn10, hB1, hB2] <;> rfl) (by rfl) (by simp [hw]) ?_
                refine evSeq_go (by simp [wants, h0, h1, da, db, h2, h3, hl, dc, hn10, hB1, hB2]) (by simp [h0, h1, da, db, h2, h3, hl, dc, hn10, hB1, hB2] <;> rfl) (by rfl) (by simp [hw]) ?_
                refine evSeq_go (by simp [wants, h0, h1, da, db, h2, h3, hl, dc, hn10, hB1, hB2]) (by simp [h0, h1, da, db, h2, h3, hl, dc, hn10, hB1, hB2] <;> rfl) (by rfl) (by simp [hw]) ?_
                refine evSeq_go (by simp [wants, h0, h1, da, db, h2, h3, hl, dc, hn10, hB1, hB2]) (by simp [h0, h1, da, db, h2, h3, hl, dc, hn10, hB1, hB2] <;> rfl) (by rfl) (by simp [hw]) ?_
                refine evSeq_go (by simp [wants, h0, h1, da, db, h2, h3, hl, dc, hn10, hB1, hB2]) (by simp [h0, h1, da, db, h2, h3, hl, dc, hn10, hB1, hB2] <;> rfl) (by rfl) (by simp [hw]) ?_
                refine evSeq_go (by simp [wants, h0, h1, da, db, h2, h3, hl, dc, hn10, hB1, hB2]) (by simp [h0, h1, da, db, h2, h3, hl, dc, hn10, hB1, hB2] <;> rfl) (by rfl) (by simp [hw]) ?_
                refine evSeq_go rfl (by simp [h0, h1, da, db, h2, h3, hl, dc, hn10, hB1, hB2] <;> rfl) (by rfl) (by simp [hw]) ?_
                refine evSeq_go rfl (by simp [h0, h1, da, db, h2, h3, hl, dc, hn10, hB1, hB2] <;> rfl) (by rfl) (by simp [hw]) ?_
                exact evSeq_nil
              refine inSeq_norm ?_
              refine Tri.ret ?_
              exact endsB (by simp [finish, evResults, evResult, Tryz.f49] <;> rfl) (by rfl)
            case true =>
              cases hB3 : (qb : Bool)
              case false =>
                refine Tri.regN (t' := ?tq1tq2tq3f13) (H' := ?Hq1tq2tq3f13) TT_ok hC ?eq1tq2tq3f13 ?qq1tq2tq3f13
                case eq1tq2tq3f13 =>
                  refine go_false ?_
                  refine evSeq_go rfl (by simp [h0, h1, da, db, h2, h3, hl, dc, hn10, hB1, hB2, hB3] <;> rfl) (by rfl) (by simp [hw]) ?_
                  refine evSeq_go rfl (by simp [h0, h1, da, db, h2, h3, hl, dc, hn10, hB1, hB2, hB3] <;> rfl) (by rfl) (by simp [hw]) ?_
                  refine evSeq_go rfl (by simp [h0, h1, da, db, h2, h3, hl, dc, hn10, hB1, hB2, hB3] <;> rfl) (by rfl) (by simp [hw]) ?_
                  refine evSeq_go (by simp [wants, h0, h1, da, db, h2, h3, hl, dc, hn10, hB1, hB2, hB3]) (by simp [h0, h1, da, db, h2, h3, hl, dc, hn10, hB1, hB2, hB3] <;> rfl) (by rfl) (by simp [hw]) ?_
                  refine evSeq_go (by simp [wants, h0, h1, da, db, h2, h3, hl, dc, hn10, hB1, hB2, hB3]) (by simp [h0, h1, da, db, h2, h3, hl, dc, hn10, hB1, hB2, hB3] <;> rfl) (by rfl) (by simp [hw]) ?_
                  refine evSeq_go (by simp [wants, h0, h1, da, db, h2, h3, hl, dc, hn10, hB1, hB2, hB3]) (by simp [h0, h1, da, db, h2, h3, hl, dc, hn10, hB1, hB2, hB3] <;> rfl) (by rfl) (by simp [hw]) ?_
                  refine evSeq_go (by simp [wants, h0, h1, da, db, h2, h3, hl, dc, hn10, hB1, hB2, hB3]) (by simp [h0, h1, da, db, h2, h3, hl, dc, hn10, hB1, hB2, hB3] <;> rfl) (by rfl) (by simp [hw]) ?_
                  refine evSeq_go (by simp [wants, h0, h1, da, db, h2, h3, hl, dc, hn10, hB1, hB2, hB3]) (by simp [h0, h1, da, db, h2, h3, hl, dc, hn10, hB1, hB2, hB3] <;> rfl) (by rfl) (by simp [hw]) ?_
                  refine evSeq_go (by simp [wants, h0, h1, da, db, h2, h3, hl, dc, hn10, hB1, hB2, hB3]) (by simp [h0, h1, da, db, h2, h3, hl, dc, hn10, hB1, hB2, hB3] <;> rfl) (by rfl) (by simp [hw]) ?_
                  refine evSeq_go (by simp [wants, h0, h1, da, db, h2, h3, hl, dc, hn10, hB1, hB2, hB3]) (by simp [h0, h1, da, db, h2, h3, hl, dc, hn10, hB1, hB2, hB3] <;> rfl) (by rfl) (by simp [hw]) ?_
                  refine evSeq_go (by simp [wants, h0, h1, da, db, h2, h3, hl, dc, hn10, hB1, hB2, hB3]) (by simp [h0, h1, da, db, h2, h3, hl, dc, hn10, hB1, hB2, hB3] <;> rfl) (by rfl) (by simp [hw]) ?_
                  refine evSeq_go (by simp [wants, h0, h1, da, db, h2, h3, hl, dc, hn10, hB1, hB2, hB3]) (by simp [h0, h1, da, db, h2, h3, hl, dc, hn10, hB1, hB2, hB3] <;> rfl) (by rfl) (by simp [hw]) ?_
                  refine evSeq_off (by simp [wants, h0, h1, da, db, h2, h3, hl, dc, hn10, hB1, hB2, hB3]) (by simp [hw]) ?_
                  refine evSeq_go (by simp [wants, h0, h1, da, db, h2, h3, hl, dc, hn10, hB1, hB2, hB3]) (by simp [h0, h1, da, db, h2, h3, hl, dc, hn10, hB1, hB2, hB3] <;> rfl) (by rfl) (by simp [hw]) ?_
                  refine evSeq_go (by simp [wants, h0, h1, da, db, h2, h3, hl, dc, hn10, hB1, hB2, hB3]) (by simp [h0, h1, da, db, h2, h3, hl, dc, hn10, hB1, hB2, hB3] <;> rfl) (by rfl) (by simp [hw]) ?_
                  refine evSeq_go rfl (by simp [h0, h1, da, db, h2, h3, hl, dc, hn10, hB1, hB2, hB3] <;> rfl) (by rfl) (by simp [hw]) ?_
                  refine evSeq_go rfl (by simp [h0, h1, da, db, h2, h3, hl, dc, hn10, hB1, hB2, hB3] <;> rfl) (by rfl) (by simp [hw]) ?_
                  exact evSeq_nil
                refine inSeq_norm ?_
                refine Tri.ret ?_
                exact endsB (by simp [finish, evResults, evResult, Tryz.f49] <;> rfl) (by rfl)
              case true =>
                refine Tri.regN (t' := ?tq1tq2tq3t13) (H' := ?Hq1tq2tq3t13) TT_ok hC ?eq1tq2tq3t13 ?qq1tq2tq3t13
                case eq1tq2tq3t13 =>
                  refine go_false ?_
                  refine evSeq_go rfl (by simp [h0, h1, da, db, h2, h3, hl, dc, hn10, hB1, hB2, hB3] <;> rfl) (by rfl) (by simp [hw]) ?_
                  refine evSeq_go rfl (by simp [h0, h1, da, db, h2, h3, hl, dc, hn10, hB1, hB2, hB3] <;> rfl) (by rfl) (by simp [hw]) ?_
                  refine evSeq_go rfl (by simp [h0, h1, da, db, h2, h3, hl, dc, hn10, hB1, hB2, hB3] <;> rfl) (by rfl) (by simp [hw]) ?_
                  refine evSeq_go (by simp [wants, h0, h1, da, db, h2, h3, hl, dc, hn10, hB1, hB2, hB3]) (by simp [h0, h1, da, db, h2, h3, hl, dc, hn10, hB1, hB2, hB3] <;> rfl) (by rfl) (by simp [hw]) ?_
                  refine evSeq_go (by simp [wants, h0, h1, da, db, h2, h3, hl, dc, hn10, hB1, hB2, hB3]) (by simp [h0, h1, da, db, h2, h3, hl, dc, hn10, hB1, hB2, hB3] <;> rfl) (by rfl) (by simp [hw]) ?_
                  refine evSeq_go (by simp [wants, h0, h1, da, db, h2, h3, hl, dc, hn10, hB1, hB2, hB3]) (by simp [h0, h1, da, db, h2, h3, hl, dc, hn10, hB1, hB2, hB3] <;> rfl) (by rfl) (by simp [hw]) ?_
                  refine evSeq_go (by simp [wants, h0, h1, da, db, h2, h3, hl, dc, hn10, hB1, hB2, hB3]) (by simp [h0, h1, da, db, h2, h3, hl, dc, hn10, hB1, hB2, hB3] <;> rfl) (by rfl) (by simp [hw]) ?_
                  refine evSeq_go (by simp [wants, h0, h1, da, db, h2, h3, hl, dc, hn10, hB1, hB2, hB3]) (by simp [h0, h1, da, db, h2, h3, hl, dc, hn10, hB1, hB2, hB3] <;> rfl) (by rfl) (by simp [hw]) ?_
                  refine evSeq_go (by simp [wants, h0, h1, da, db, h2, h3, hl, dc, hn10, hB1, hB2, hB3]) (by simp [h0, h1, da, db, h2, h3, hl, dc, hn10, hB1, hB2, hB3] <;> rfl) (by rfl) (by simp [hw]) ?_
                  refine evSeq_off (by simp [wants, h0, h1, da, db, h2, h3, hl, dc, hn10, hB1, hB2, hB3]) (by simp [hw]) ?_
                  refine evSeq_off (by simp [wants, h0, h1, da, db, h2, h3, hl, dc, hn10, hB1, hB2, hB3]) (by simp [hw]) ?_
                  refine evSeq_off (by simp [wants, h0, h1, da, db, h2, h3, hl, dc, hn10, hB1, hB2, hB3]) (by simp [hw]) ?_
                  refine evSeq_off (by simp [wants, h0, h1, da, db, h2, h3, hl, dc, hn10, hB1, hB2, hB3]) (by simp [hw]) ?_
                  refine evSeq_off (by simp [wants, h0, h1, da, db, h2, h3, hl, dc, hn10, hB1, hB2, hB3]) (by simp [hw]) ?_
                  refine evSeq_go (by simp [wants, h0, h1, da, db, h2, h3, hl, dc, hn10, hB1, hB2, hB3]) (by simp [h0, h1, da, db, h2, h3, hl, dc, hn10, hB1, hB2, hB3] <;> rfl) (by rfl) (by simp [hw]) ?_
                  refine evSeq_go rfl (by simp [h0, h1, da, db, h2, h3, hl, dc, hn10, hB1, hB2, hB3] <;> rfl) (by rfl) (by simp [hw]) ?_
                  refine evSeq_go rfl (by simp [h0, h1, da, db, h2, h3, hl, dc, hn10, hB1, hB2, hB3] <;> rfl) (by rfl) (by simp [hw]) ?_
                  exact evSeq_nil
                refine inSeq_norm ?_
                refine Tri.ret ?_
                exact endsB (by simp [finish, evResults, evResult, Tryz.f49] <;> rfl) (by rfl)
    case n6 =>
      intro hn6
      exact absurd hn6 (by simp [h0, h1, da, db, h2, h3, hl, dc])
theorem body_35c {call : CallF} (hC : call.Sound Tryz.prog TT) (s : List UInt8) (sg : UInt8 → Bool) (h2 : ∀ c H, call 75 [.s [43, 45], .s [c]] H = .val (.b (sg c)) H) (a2 b2 : List UInt8) (f2 qa qb : Bool) (da : ∀ H, call 73 [.s a2] H = .val (.b qa) H) (db : ∀ H, call 73 [.s b2] H = .val (.b qb) H) (c : UInt8) (r : List UInt8) (qc qr : Bool) (dc : ∀ H, call 73 [.s (c :: r)] H = .val (.b qc) H) (dr : ∀ H, call 73 [.s r] H = .val (.b qr) H) (a : List UInt8) (hl : decide ((20000 : Int) < s.length) = false) (h1 : ∀ H, call 74 [.s s, .s [101]] H = .val (.tup [.s a, .s (c :: r), .b true]) H) (h3 : ∀ H, call 74 [.s a, .s [46]] H = .val (.tup [.s a2, .s b2, .b f2]) H)  : EBody Tryz.prog TT 49 [.s s] (fun r => ∃ b : Bool, r = .val (.b b)) := by
  refine ⟨Tryz.f49, _, rfl, rfl, by simp [Tryz.f49], ?_⟩
  have h0 : (Tm.init Tryz.f49.ntmps [.s s]).get 0 = .s s := by rw [get_init]; rfl
  have hw : (Tm.init Tryz.f49.ntmps [.s s]).wid = 53 := rfl
  generalize Tm.init Tryz.f49.ntmps [.s s] = t at *
  try simp only [Nd.enc_eq] at *
  refine Tri.seq' ?_
  refine Tri.regN (t' := ?t1) (H' := ?H1) TT_ok hC ?e1 ?q1
  case e1 =>
    refine go_false ?_
    refine evSeq_go rfl (by simp [h0, h1, da, db, h2, h3, hl, dc, dr, one_le] <;> rfl) (by rfl) (by simp [hw]) ?_
    exact evSeq_nil
  refine inSeq_norm ?_
  refine Tri.seq' ?_
  refine Tri.seq' ?_
  refine Tri.regN (t' := ?t2) (H' := ?H2) TT_ok hC ?e2 ?q2
  case e2 =>
    refine go_false ?_
    refine evSeq_go rfl (by simp [h0, h1, da, db, h2, h3, hl, dc, dr, one_le] <;> rfl) (by rfl) (by simp [hw]) ?_
    refine evSeq_go rfl (by simp [h0, h1, da, db, h2, h3, hl, dc, dr, one_le] <;> rfl) (by rfl) (by simp [hw]) ?_
    refine evSeq_go rfl (by simp [h0, h1, da, db, h2, h3, hl, dc, dr, one_le] <;> rfl) (by rfl) (by simp [hw]) ?_
    exact evSeq_nil
  refine inSeq_norm ?_
  refine Tri.condG (o := ?o3) (b := ?b3) ?g3 ?r3 ?y3 ?n3
  case g3 => simp [h0, h1, da, db, h2, h3, hl, dc, dr, one_le] <;> rfl
  case r3 => rfl
  case y3 =>
    intro hy3
    exact absurd hy3 (by simp [h0, h1, da, db, h2, h3, hl, dc, dr, one_le])
  case n3 =>
    intro hn3
    refine Tri.skip ?_
    refine inSeq_norm ?_
    refine Tri.seq' ?_
    refine Tri.regN (t' := ?t4) (H' := ?H4) TT_ok hC ?e4 ?q4
    case e4 =>
      refine go_false ?_
      refine evSeq_go rfl (by simp [h0, h1, da, db, h2, h3, hl, dc, dr, one_le] <;> rfl) (by rfl) (by simp [hw]) ?_
      refine evSeq_go rfl (by simp [h0, h1, da, db, h2, h3, hl, dc, dr, one_le] <;> rfl) (by rfl) (by simp [hw]) ?_
      refine evSeq_go rfl (by simp [h0, h1, da, db, h2, h3, hl, dc, dr, one_le] <;> rfl) (by rfl) (by simp [hw]) ?_
      refine evSeq_go rfl (by simp [h0, h1, da, db, h2, h3, hl, dc, dr, one_le] <;> rfl) (by rfl) (by simp [hw]) ?_
      refine evSeq_go rfl (by simp [h0, h1, da, db, h2, h3, hl, dc, dr, one_le] <;> rfl) (by rfl) (by simp [hw]) ?_
      refine evSeq_go rfl (by simp [h0, h1, da, db, h2, h3, hl, dc, dr, one_le] <;> rfl) (by rfl) (by simp [hw]) ?_
      refine evSeq_go rfl (by simp [h0, h1, da, db, h2, h3, hl, dc, dr, one_le] <;> rfl) (by rfl) (by simp [hw]) ?_
      refine evSeq_go rfl (by simp [h0, h1, da, db, h2, h3, hl, dc, dr, one_le] <;> rfl) (by rfl) (by simp [hw]) ?_
      refine evSeq_go rfl (by simp [h0, h1, da, db, h2, h3, hl, dc, dr, one_le] <;> rfl) (by rfl) (by simp [hw]) ?_
      exact evSeq_nil
    refine inSeq_norm ?_
    refine Tri.seq' ?_
    refine Tri.seq' ?_
    refine Tri.regN (t' := ?t5) (H' := ?H5) TT_ok hC ?e5 ?q5
    case e5 =>
      refine go_false ?_
      refine evSeq_go rfl (by simp [h0, h1, da, db, h2, h3, hl, dc, dr, one_le] <;> rfl) (by rfl) (by simp [hw]) ?_
      exact evSeq_nil
    refine inSeq_norm ?_
    refine Tri.condG (o := ?o6) (b := ?b6) ?g6 ?r6 ?y6 ?n6
    case g6 => simp [h0, h1, da, db, h2, h3, hl, dc, dr, one_le] <;> rfl
    case r6 => rfl
    case y6 =>
      intro hy6
      refine Tri.seq' ?_
      refine Tri.seq' ?_
      refine Tri.regN (t' := ?t7) (H' := ?H7) TT_ok hC ?e7 ?q7
      case e7 =>
        refine go_false ?_
        refine evSeq_go rfl (by simp [h0, h1, da, db, h2, h3, hl, dc, dr, one_le] <;> rfl) (by rfl) (by simp [hw]) ?_
        refine evSeq_go rfl (by simp [h0, h1, da, db, h2, h3, hl, dc, dr, one_le] <;> rfl) (by rfl) (by simp [hw]) ?_
        refine evSeq_go rfl (by simp [h0, h1, da, db, h2, h3, hl, dc, dr, one_le] <;> rfl) (by rfl) (by simp [hw]) ?_
        refine evSeq_go (by simp [wants, h0, h1, da, db, h2, h3, hl, dc, dr, one_le]) (by simp [h0, h1, da, db, h2, h3, hl, dc, dr, one_le] <;> rfl) (by rfl) (by simp [hw]) ?_
        refine evSeq_go (by simp [wants, h0, h1, da, db, h2, h3, hl, dc, dr, one_le]) (by simp [h0, h1, da, db, h2, h3, hl, dc, dr, one_le] <;> rfl) (by rfl) (by simp [hw]) ?_
        refine evSeq_go (by simp [wants, h0, h1, da, db, h2, h3, hl, dc, dr, one_le]) (by simp [h0, h1, da, db, h2, h3, hl, dc, dr, one_le] <;> rfl) (by rfl) (by simp [hw]) ?_
        refine evSeq_go rfl (by simp [h0, h1, da, db, h2, h3, hl, dc, dr, one_le] <;> rfl) (by rfl) (by simp [hw]) ?_
        exact evSeq_nil
      refine inSeq_norm ?_
      refine Tri.condG (o := ?o8) (b := ?b8) ?g8 ?r8 ?y8 ?n8
      case g8 => simp [h0, h1, da, db, h2, h3, hl, dc, dr, one_le] <;> rfl
      case r8 => rfl
      case y8 =>
        intro hy8
        refine Tri.regN (t' := ?t9) (H' := ?H9) TT_ok hC ?e9 ?q9
        case e9 =>
          refine go_false ?_
          refine evSeq_go rfl (by simp [h0, h1, da, db, h2, h3, hl, dc, dr, one_le, hy8] <;> rfl) (by rfl) (by simp [hw]) ?_
          refine evSeq_go rfl (by simp [h0, h1, da, db, h2, h3, hl, dc, dr, one_le, hy8] <;> rfl) (by rfl) (by simp [hw]) ?_
          refine evSeq_go rfl (by simp [h0, h1, da, db, h2, h3, hl, dc, dr, one_le, hy8] <;> rfl) (by rfl) (by simp [hw]) ?_
          exact evSeq_nil
        refine inSeq_norm ?_
        refine Tri.seq' ?_
        refine Tri.regN (t' := ?t10) (H' := ?H10) TT_ok hC ?e10 ?q10
        case e10 =>
          refine go_false ?_
          refine evSeq_go rfl (by simp [h0, h1, da, db, h2, h3, hl, dc, dr, one_le, hy8] <;> rfl) (by rfl) (by simp [hw]) ?_
          refine evSeq_go rfl (by simp [h0, h1, da, db, h2, h3, hl, dc, dr, one_le, hy8] <;> rfl) (by rfl) (by simp [hw]) ?_
          refine evSeq_go rfl (by simp [h0, h1, da, db, h2, h3, hl, dc, dr, one_le, hy8] <;> rfl) (by rfl) (by simp [hw]) ?_
          exact evSeq_nil
        refine inSeq_norm ?_
        refine Tri.condG (o := ?o11) (b := ?b11) ?g11 ?r11 ?y11 ?n11
        case g11 => simp [h0, h1, da, db, h2, h3, hl, dc, dr, one_le, hy8] <;> rfl
        case r11 => rfl
        case y11 =>
          intro hy11
          refine Tri.seq' ?_
          refine Tri.regN (t' := ?t12) (H' := ?H12) TT_ok hC ?e12 ?q12
          case e12 =>
            refine go_false ?_
            refine evSeq_go rfl (by simp [h0, h1, da, db, h2, h3, hl, dc, dr, one_le, hy8, hy11] <;> rfl) (by rfl) (by simp [hw]) ?_
            exact evSeq_nil
          refine inSeq_norm ?_
          refine Tri.ret ?_
          refine inSeq_ret ?_
          exact endsB (by simp [finish, evResults, evResult, Tryz.f49] <;> rfl) (by rfl)
        case n11 =>
          intro hn11
          refine Tri.skip ?_
          refine inSeq_norm ?_
          refine Tri.seq' ?_
          refine Tri.regN (t' := ?t13) (H' := ?H13) TT_ok hC ?e13 ?q13
          case e13 =>
            refine go_false ?_
            refine evSeq_go rfl (by simp [h0, h1, da, db, h2, h3, hl, dc, dr, one_le, hy8, hn11] <;> rfl) (by rfl) (by simp [hw]) ?_
            refine evSeq_go rfl (by simp [h0, h1, da, db, h2, h3, hl, dc, dr, one_le, hy8, hn11] <;> rfl) (by rfl) (by simp [hw]) ?_
            refine evSeq_go rfl (by simp [h0, h1, da, db, h2, h3, hl, dc, dr, one_le, hy8, hn11] <;> rfl) (by rfl) (by simp [hw]) ?_
            refine evSeq_go rfl (by simp [h0, h1, da, db, h2, h3, hl, dc, dr, one_le, hy8, hn11] <;> rfl) (by rfl) (by simp [hw]) ?_
            refine evSeq_go rfl (by simp [h0, h1, da, db, h2, h3, hl, dc, dr, one_le, hy8, hn11] <;> rfl) (by rfl) (by simp [hw]) ?_
            refine evSeq_go rfl (by simp [h0, h1, da, db, h2, h3, hl, dc, dr, one_le, hy8, hn11] <;> rfl) (by rfl) (by simp [hw]) ?_
            refine evSeq_go rfl (by simp [h0, h1, da, db, h2, h3, hl, dc, dr, one_le, hy8, hn11] <;> rfl) (by rfl) (by simp [hw]) ?_
            refine evSeq_go rfl (by simp [h0, h1, da, db, h2, h3, hl, dc, dr, one_le, hy8, hn11] <;> rfl) (by rfl) (by simp [hw]) ?_
            refine evSeq_go rfl (by simp [h0, h1, da, db, h2, h3, hl, dc, dr, one_le, hy8, hn11] <;> rfl) (by rfl) (by simp [hw]) ?_
            exact evSeq_nil
          refine inSeq_norm ?_
          refine Tri.seq' ?_
          cases hB1 : (qa : Bool)
          case false =>
            refine Tri.regN (t' := ?tq1f14) (H' := ?Hq1f14) TT_ok hC ?eq1f14 ?qq1f14
            case eq1f14 =>
              refine go_false ?_
              refine evSeq_go rfl (by simp [h0, h1, da, db, h2, h3, hl, dc, dr, one_le, hy8, hn11, hB1] <;> rfl) (by rfl) (by simp [hw]) ?_
              refine evSeq_go rfl (by simp [h0, h1, da, db, h2, h3, hl, dc, dr, one_le, hy8, hn11, hB1] <;> rfl) (by rfl) (by simp [hw]) ?_
              refine evSeq_go rfl (by simp [h0, h1, da, db, h2, h3, hl, dc, dr, one_le, hy8, hn11, hB1] <;> rfl) (by rfl) (by simp [hw]) ?_
              refine evSeq_off (by simp [wants, h0, h1, da, db, h2, h3, hl, dc, dr, one_le, hy8, hn11, hB1]) (by simp [hw]) ?_
              refine evSeq_off (by simp [wants, h0, h1, da, db, h2, h3, hl, dc, dr, one_le, hy8, hn11, hB1]) (by simp [hw]) ?_
              refine evSeq_off (by simp [wants, h0, h1, da, db, h2, h3, hl, dc, dr, one_le, hy8, hn11, hB1]) (by simp [hw]) ?_
              refine evSeq_off (by simp [wants, h0, h1, da, db, h2, h3, hl, dc, dr, one_le, hy8, hn11, hB1]) (by simp [hw]) ?_
              refine evSeq_off (by simp [wants, h0, h1, da, db, h2, h3, hl, dc, dr, one_le, hy8, hn11, hB1]) (by simp [hw]) ?_
              refine evSeq_off (by simp [wants, h0, h1, da, db, h2, h3, hl, dc, dr, one_le, hy8, hn11, hB1]) (by simp [hw]) ?_
              refine evSeq_off (by simp [wants, h0, h1, da, db, h2, h3, hl, dc, dr, one_le, hy8, hn11, hB1]) (by simp [hw]) ?_
              refine evSeq_off (by simp [wants, h0, h1, da, db, h2, h3, hl, dc, dr, one_le, hy8, hn11, hB1]) (by simp [hw]) ?_
              refine evSeq_off (by simp [wants, h0, h1, da, db, h2, h3, hl, dc, dr, one_le, hy8, hn11, hB1]) (by simp [hw]) ?_
              refine evSeq_off (by simp [wants, h0, h1, da, db, h2, h3, hl, dc, dr, one_le, hy8, hn11, hB1]) (by simp [hw]) ?_
              refine evSeq_off (by simp [wants, h0, h1, da, db, h2, h3, hl, dc, dr, one_le, hy8, hn11, hB1]) (by simp [hw]) ?_
              refine evSeq_off (by simp [wants, h0, h1, da, db, h2, h3, hl, dc, dr, one_le, hy8, hn11, hB1]) (by simp [hw]) ?_
              refine evSeq_go rfl (by simp [h0, h1, da, db, h2, h3, hl, dc, dr, one_le, hy8, hn11, hB1] <;> rfl) (by rfl) (by simp [hw]) ?_
              refine evSeq_go rfl (by simp [h0, h1, da, db, h2, h3, hl, dc, dr, one_le, hy8, hn11, hB1] <;> rfl) (by rfl) (by simp [hw]) ?_
              exact evSeq_nil
            refine inSeq_norm ?_
            refine Tri.ret ?_
            exact endsB (by simp [finish, evResults, evResult, Tryz.f49] <;> rfl) (by rfl)
          case true =>
            cases hB2 : (f2 : Bool)
            case false =>
              refine Tri.regN (t' := ?tq1tq2f14) (H' := ?Hq1tq2f14) TT_ok hC ?eq1tq2f14 ?qq1tq2f14
              case eq1tq2f14 =>
                refine go_false ?_
                refine evSeq_go rfl (by simp [h0, h1, da, db, h2, h3, hl, dc, dr, one_le, hy8, hn11, hB1, hB2] <;> rfl) (by rfl) (by simp [hw]) ?_
                refine evSeq_go rfl (by simp [h0, h1, da, db, h2, h3, hl, dc, dr, one_le, hy8, hn11, hB1, hB2] <;> rfl) (by rfl) (by simp [hw]) ?_
                refine evSeq_go rfl (by simp [h0, h1, da, db, h2, h3, hl, dc, dr, one_le, hy8, hn11, hB1, hB2] <;> rfl) (by rfl) (by simp [hw]) ?_
                refine evSeq_go (by simp [wants, h0, h1, da, db, h2, h3, hl, dc, dr, one_le, hy8, hn11, hB1, hB2]) (by simp [h0, h1, da, db, h2, h3, hl, dc, dr, one_le, hy8, hn11, hB1, hB2] <;> rfl) (by rfl) (by simp [hw]) ?_
                refine evSeq_go (by simp [wants, h0, h1, da, db, h2, h3, hl, dc, dr, one_le, hy8, hn11, hB1, hB2]) (by simp [h0, h1, da, db, h2, h3, hl, dc, dr, one_le, hy8, hn11, hB1, hB2] <;> rfl) (by rfl) (by simp [hw]) ?_
                refine evSeq_off (by simp [wants, h0, h1, da, db, h2, h3, hl, dc, dr, one_le, hy8, hn11, hB1, hB2]) (by simp [hw]) ?_
                refine evSeq_off (by simp [wants, h0, h1, da, db, h2, h3, hl, dc, dr, one_le, hy8, hn11, hB1, hB2]) (by simp [hw]) ?_
                refine evSeq_go (by simp [wants, h0, h1, da, db, h2, h3, hl, dc, dr, one_le, hy8, hn11, hB1, hB2]) (by simp [h0, h1, da, db, h2, h3, hl, dc, dr, one_le, hy8, hn11, hB1, hB2] <;> rfl) (by rfl) (by simp [hw]) ?_
                refine evSeq_go (by simp [wants, h0, h1, da, db, h2, h3, hl, dc, dr, one_le, hy8, hn11, hB1, hB2]) (by simp [h0, h1, da, db, h2, h3, hl, dc, dr, one_le, hy8, hn11, hB1, hB2] <;> rfl) (by rfl) (by simp [hw]) ?_
                refine evSeq_go (by simp [wants, h0, h1, da, db, h2, h3, hl, dc, dr, one_le, hy8, hn11, hB1, hB2]) (by simp [h0, h1, da, db, h2, h3, hl, dc, dr, one_le, hy8, hn11, hB1, hB2] <;> rfl) (by rfl) (by simp [hw]) ?_
                refine evSeq_go (by simp [wants, h0, h1, da, db, h2, h3, hl, dc, dr, one_le, hy8, hn11, hB1, hB2]) (by simp [h0, h1, da, db, h2, h3, hl, dc, dr, one_le, hy8, hn11, hB1, hB2] <;> rfl) (by rfl) (by simp [hw]) ?_
                refine evSeq_go (by simp [wants, h0, h1, da, db, h2, h3, hl, dc, dr, one_le, hy8, hn11, hB1, hB2]) (by simp [h0, h1, da, db, h2, h3, hl, dc, dr, one_le, hy8, hn11, hB1, hB2] <;> rfl) (by rfl) (by simp [hw]) ?_
                refine evSeq_go (by simp [wants, h0, h1, da, db, h2, h3, hl, dc, dr, one_le, hy8, hn11, hB1, hB2]) (by simp [h0, h1, da, db, h2, h3, hl, dc, dr, one_le, hy8, hn11, hB1, hB2] <;> rfl) (by rfl) (by simp [hw]) ?_
                refine evSeq_go (by simp [wants, h0, h1, da, db, h2, h3, hl, dc, dr, one_le, hy8, hn11, hB1, hB2]) (by simp [h0, h1, da, db, h2, h3, hl, dc, dr, one_le, hy8, hn11, hB1, hB2] <;> rfl) (by rfl) (by simp [hw]) ?_
                refine evSeq_go (by simp [wants, h0, h1, da, db, h2, h3, hl, dc, dr, one_le, hy8, hn11, hB1, hB2]) (by simp [h0, h1, da, db, h2, h3, hl, dc, dr, one_le, hy8, hn11, hB1, hB2] <;> rfl) (by rfl) (by simp [hw]) ?_
                refine evSeq_go rfl (by simp [h0, h1, da, db, h2, h3, hl, dc, dr, one_le, hy8, hn11, hB1, hB2] <;> rfl) (by rfl) (by simp [hw]) ?_
                refine evSeq_go rfl (by simp [h0, h1, da, db, h2, h3, hl, dc, dr, one_le, hy8, hn11, hB1, hB2] <;> rfl) (by rfl) (by simp [hw]) ?_
                exact evSeq_nil
              refine inSeq_norm ?_
              refine Tri.ret ?_
              exact endsB (by simp [finish, evResults, evResult, Tryz.f49] <;> rfl) (by rfl)
            case true =>
              cases hB3 : (qb : Bool)
              case false =>
                refine Tri.regN (t' := ?tq1tq2tq3f14) (H' := ?Hq1tq2tq3f14) TT_ok hC ?eq1tq2tq3f14 ?qq1tq2tq3f14
                case eq1tq2tq3f14 =>
                  refine go_false ?_
                  refine evSeq_go rfl (by simp [h0, h1, da, db, h2, h3, hl, dc, dr, one_le, hy8, hn11, hB1, hB2, hB3] <;> rfl) (by rfl) (by simp [hw]) ?_
                  refine evSeq_go rfl (by simp [h0, h1, da, db, h2, h3, hl, dc, dr, one_le, hy8, hn11, hB1, hB2, hB3] <;> rfl) (by rfl) (by simp [hw]) ?_
                  refine evSeq_go rfl (by simp [h0, h1, da, db, h2, h3, hl, dc, dr, one_le, hy8, hn11, hB1, hB2, hB3] <;> rfl) (by rfl) (by simp [hw]) ?_
                  refine evSeq_go (by simp [wants, h0, h1, da, db, h2, h3, hl, dc, dr, one_le, hy8, hn11, hB1, hB2, hB3]) (by simp [h0, h1, da, db, h2, h3, hl, dc, dr, one_le, hy8, hn11, hB1, hB2, hB3] <;> rfl) (by rfl) (by simp [hw]) ?_
                  refine evSeq_go (by simp [wants, h0, h1, da, db, h2, h3, hl, dc, dr, one_le, hy8, hn11, hB1, hB2, hB3]) (by simp [h0, h1, da, db, h2, h3, hl, dc, dr, one_le, hy8, hn11, hB1, hB2, hB3] <;> rfl) (by rfl) (by simp [hw]) ?_
                  refine evSeq_go (by simp [wants, h0, h1, da, db, h2, h3, hl, dc, dr, one_le, hy8, hn11, hB1, hB2, hB3]) (by simp [h0, h1, da, db, h2, h3, hl, dc, dr, one_le, hy8, hn11, hB1, hB2, hB3] <;> rfl) (by rfl) (by simp [hw]) ?_
                  refine evSeq_go (by simp [wants, h0, h1, da, db, h2, h3, hl, dc, dr, one_le, hy8, hn11, hB1, hB2, hB3]) (by simp [h0, h1, da, db, h2, h3, hl, dc, dr, one_le, hy8, hn11, hB1, hB2, hB3] <;> rfl) (by rfl) (by simp [hw]) ?_
                  refine evSeq_go (by simp [wants, h0, h1, da, db, h2, h3, hl, dc, dr, one_le, hy8, hn11, hB1, hB2, hB3]) (by simp [h0, h1, da, db, h2, h3, hl, dc, dr, one_le, hy8, hn11, hB1, hB2, hB3] <;> rfl) (by rfl) (by simp [hw]) ?_
                  refine evSeq_go (by simp [wants, h0, h1, da, db, h2, h3, hl, dc, dr, one_le, hy8, hn11, hB1, hB2, hB3]) (by simp [h0, h1, da, db, h2, h3, hl, dc, dr, one_le, hy8, hn11, hB1, hB2, hB3] <;> rfl) (by rfl) (by simp [hw]) ?_
                  refine evSeq_go (by simp [wants, h0, h1, da, db, h2, h3, hl, dc, dr, one_le, hy8, hn11, hB1, hB2, hB3]) (by simp [h0, h1, da, db, h2, h3, hl, dc, dr, one_le, hy8, hn11, hB1, hB2, hB3] <;> rfl) (by rfl) (by simp [hw]) ?_
                  refine evSeq_go (by simp [wants, h0, h1, da, db, h2, h3, hl, dc, dr, one_le, hy8, hn11, hB1, hB2, hB3]) (by simp [h0, h1, da, db, h2, h3, hl, dc, dr, one_le, hy8, hn11, hB1, hB2, hB3] <;> rfl) (by rfl) (by simp [hw]) ?_
                  refine evSeq_go (by simp [wants, h0, h1, da, db, h2, h3, hl, dc, dr, one_le, hy8, hn11, hB1, hB2, hB3]) (by simp [h0, h1, da, db, h2, h3, hl, dc, dr, one_le, hy8, hn11, hB1, hB2, hB3] <;> rfl) (by rfl) (by simp [hw]) ?_
                  refine evSeq_off (by simp [wants, h0, h1, da, db, h2, h3, hl, dc, dr, one_le, hy8, hn11, hB1, hB2, hB3]) (by simp [hw]) ?_
                  refine evSeq_go (by simp [wants, h0, h1, da, db, h2, h3, hl, dc, dr, one_le, hy8, hn11, hB1, hB2, hB3]) (by simp [h0, h1, da, db, h2, h3, hl, dc, dr, one_le, hy8, hn11, hB1, hB2, hB3] <;> rfl) (by rfl) (by simp [hw]) ?_
                  refine evSeq_go (by simp [wants, h0, h1, da, db, h2, h3, hl, dc, dr, one_le, hy8, hn11, hB1, hB2, hB3]) (by simp [h0, h1, da, db, h2, h3, hl, dc, dr, one_le, hy8, hn11, hB1, hB2, hB3] <;> rfl) (by rfl) (by simp [hw]) ?_
                  refine evSeq_go rfl (by simp [h0, h1, da, db, h2, h3, hl, dc, dr, one_le, hy8, hn11, hB1, hB2, hB3] <;> rfl) (by rfl) (by simp [hw]) ?_
                  refine evSeq_go rfl (by simp [h0, h1, da, db, h2, h3, hl, dc, dr, one_le, hy8, hn11, hB1, hB2, hB3] <;> rfl) (by rfl) (by simp [hw]) ?_
                  exact evSeq_nil
                refine inSeq_norm ?_
                refine Tri.ret ?_
                exact endsB (by simp [finish, evResults, evResult, Tryz.f49] <;> rfl) (by rfl)
              case true =>
                refine Tri.regN (t' := ?tq1tq2tq3t14) (H' := ?Hq1tq2tq3t14) TT_ok hC ?eq1tq2tq3t14 ?qq1tq2tq3t14
                case eq1tq2tq3t14 =>
                  refine go_false ?_
                  refine evSeq_go rfl (by simp [h0, h1, da, db, h2, h3, hl, dc, dr, one_le, hy8, hn11, hB1, hB2, hB3] <;> rfl) (by rfl) (by simp [hw]) ?_
                  refine evSeq_go rfl (by simp [h0, h1, da, db, h2, h3, hl, dc, dr, one_le, hy8, hn11, hB1, hB2, hB3] <;> rfl) (by rfl) (by simp [hw]) ?_
                  refine evSeq_go rfl (by simp [h0, h1, da, db, h2, h3, hl, dc, dr, one_le, hy8, hn11, hB1, hB2, hB3] <;> rfl) (by rfl) (by simp [hw]) ?_
                  refine evSeq_go (by simp [wants, h0, h1, da, db, h2, h3, hl, dc, dr, one_le, hy8, hn11, hB1, hB2, hB3]) (by simp [h0, h1, da, db, h2, h3, hl, dc, dr, one_le, hy8, hn11, hB1, hB2, hB3] <;> rfl) (by rfl) (by simp [hw]) ?_
                  refine evSeq_go (by simp [wants, h0, h1, da, db, h2, h3, hl, dc, dr, one_le, hy8, hn11, hB1, hB2, hB3]) (by simp [h0, h1, da, db, h2, h3, hl, dc, dr, one_le, hy8, hn11, hB1, hB2, hB3] <;> rfl) (by rfl) (by simp [hw]) ?_
                  refine evSeq_go (by simp [wants, h0, h1, da, db, h2, h3, hl, dc, dr, one_le, hy8, hn11, hB1, hB2, hB3]) (by simp [h0, h1, da, db, h2, h3, hl, dc, dr, one_le, hy8, hn11, hB1, hB2, hB3] <;> rfl) (by rfl) (by simp [hw]) ?_
                  refine evSeq_go (by simp [wants, h0, h1, da, db, h2, h3, hl, dc, dr, one_le, hy8, hn11, hB1, hB2, hB3]) (by simp [h0, h1, da, db, h2, h3, hl, dc, dr, one_le, hy8, hn11, hB1, hB2, hB3] <;> rfl) (by rfl) (by simp [hw]) ?_
                  refine evSeq_go (by simp [wants, h0, h1, da, db, h2, h3, hl, dc, dr, one_le, hy8, hn11, hB1, hB2, hB3]) (by simp [h0, h1, da, db, h2, h3, hl, dc, dr, one_le, hy8, hn11, hB1, hB2, hB3] <;> rfl) (by rfl) (by simp [hw]) ?_
                  refine evSeq_go (by simp [wants, h0, h1, da, db, h2, h3, hl, dc, dr, one_le, hy8, hn11, hB1, hB2, hB3]) (by simp [h0, h1, da, db, h2, h3, hl, dc, dr, one_le, hy8, hn11, hB1, hB2, hB3] <;> rfl) (by rfl) (by simp [hw]) ?_
                  refine evSeq_off (by simp [wants, h0, h1, da, db, h2, h3, hl, dc, dr, one_le, hy8, hn11, hB1, hB2, hB3]) (by simp [hw]) ?_
                  refine evSeq_off (by simp [wants, h0, h1, da, db, h2, h3, hl, dc, dr, one_le, hy8, hn11, hB1, hB2, hB3]) (by simp [hw]) ?_
                  refine evSeq_off (by simp [wants, h0, h1, da, db, h2, h3, hl, dc, dr, one_le, hy8, hn11, hB1, hB2, hB3]) (by simp [hw]) ?_
                  refine evSeq_off (by simp [wants, h0, h1, da, db, h2, h3, hl, dc, dr, one_le, hy8, hn11, hB1, hB2, hB3]) (by simp [hw]) ?_
                  refine evSeq_off (by simp [wants, h0, h1, da, db, h2, h3, hl, dc, dr, one_le, hy8, hn11, hB1, hB2, hB3]) (by simp [hw]) ?_
                  refine evSeq_go (by simp [wants, h0, h1, da, db, h2, h3, hl, dc, dr, one_le, hy8, hn11, hB1, hB2, hB3]) (by simp [h0, h1, da, db, h2, h3, hl, dc, dr, one_le, hy8, hn11, hB1, hB2, hB3] <;> rfl) (by rfl) (by simp [hw]) ?_
                  refine evSeq_go rfl (by simp [h0, h1, da, db, h2, h3, hl, dc, dr, one_le, hy8, hn11, hB1, hB2, hB3] <;> rfl) (by rfl) (by simp [hw]) ?_
                  refine evSeq_go rfl (by simp [h0, h1, da, db, h2, h3, hl, dc, dr, one_le, hy8, hn11, hB1, hB2, hB3] <;> rfl) (by rfl) (by simp [hw]) ?_
                  exact evSeq_nil
                refine inSeq_norm ?_
                refine Tri.ret ?_
                exact endsB (by simp [finish, evResults, evResult, Tryz.f49] <;> rfl) (by rfl)
      case n8 =>
        intro hn8
        refine Tri.skip ?_
        refine inSeq_norm ?_
        refine Tri.seq' ?_
        refine Tri.regN (t' := ?t15) (H' := ?H15) TT_ok hC ?e15 ?q15
        case e15 =>
          refine go_false ?_
          refine evSeq_go rfl (by simp [h0, h1, da, db, h2, h3, hl, dc, dr, one_le, hn8] <;> rfl) (by rfl) (by simp [hw]) ?_
          refine evSeq_go rfl (by simp [h0, h1, da, db, h2, h3, hl, dc, dr, one_le, hn8] <;> rfl) (by rfl) (by simp [hw]) ?_
          refine evSeq_go rfl (by simp [h0, h1, da, db, h2, h3, hl, dc, dr, one_le, hn8] <;> rfl) (by rfl) (by simp [hw]) ?_
          exact evSeq_nil
        refine inSeq_norm ?_
        refine Tri.condG (o := ?o16) (b := ?b16) ?g16 ?r16 ?y16 ?n16
        case g16 => simp [h0, h1, da, db, h2, h3, hl, dc, dr, one_le, hn8] <;> rfl
        case r16 => rfl
        case y16 =>
          intro hy16
          refine Tri.seq' ?_
          refine Tri.regN (t' := ?t17) (H' := ?H17) TT_ok hC ?e17 ?q17
          case e17 =>
            refine go_false ?_
            refine evSeq_go rfl (by simp [h0, h1, da, db, h2, h3, hl, dc, dr, one_le, hn8, hy16] <;> rfl) (by rfl) (by simp [hw]) ?_
            exact evSeq_nil
          refine inSeq_norm ?_
          refine Tri.ret ?_
          refine inSeq_ret ?_
          exact endsB (by simp [finish, evResults, evResult, Tryz.f49] <;> rfl) (by rfl)
        case n16 =>
          intro hn16
          refine Tri.skip ?_
          refine inSeq_norm ?_
          refine Tri.seq' ?_
          refine Tri.regN (t' := ?t18) (H' := ?H18) TT_ok hC ?e18 ?q18
          case e18 =>
            refine go_false ?_
            refine evSeq_go rfl (by simp [h0, h1, da, db, h2, h3, hl, dc, dr, one_le, hn8, hn16] <;> rfl) (by rfl) (by simp [hw]) ?_
            refine evSeq_go rfl (by simp [h0, h1, da, db, h2, h3, hl, dc, dr, one_le, hn8, hn16] <;> rfl) (by rfl) (by simp [hw]) ?_
            refine evSeq_go rfl (by simp [h0, h1, da, db, h2, h3, hl, dc, dr, one_le, hn8, hn16] <;> rfl) (by rfl) (by simp [hw]) ?_
            refine evSeq_go rfl (by simp [h0, h1, da, db, h2, h3, hl, dc, dr, one_le, hn8, hn16] <;> rfl) (by rfl) (by simp [hw]) ?_
            refine evSeq_go rfl (by simp [h0, h1, da, db, h2, h3, hl, dc, dr, one_le, hn8, hn16] <;> rfl) (by rfl) (by simp [hw]) ?_
            refine evSeq_go rfl (by simp [h0, h1, da, db, h2, h3, hl, dc, dr, one_le, hn8, hn16] <;> rfl) (by rfl) (by simp [hw]) ?_
            refine evSeq_go rfl (by simp [h0, h1, da, db, h2, h3, hl, dc, dr, one_le, hn8, hn16] <;> rfl) (by rfl) (by simp [hw]) ?_
            refine evSeq_go rfl (by simp [h0, h1, da, db, h2, h3, hl, dc, dr, one_le, hn8, hn16] <;> rfl) (by rfl) (by simp [hw]) ?_
            refine evSeq_go rfl (by simp [h0, h1, da, db, h2, h3, hl, dc, dr, one_le, hn8, hn16] <;> rfl) (by rfl) (by simp [hw]) ?_
            exact evSeq_nil
          refine inSeq_norm ?_
          refine Tri.seq' ?_
          cases hB4 : (qa : Bool)
          case false =>
            refine Tri.regN (t' := ?tq4f19) (H' := ?Hq4f19) TT_ok hC ?eq4f19 ?qq4f19
            case eq4f19 =>
              refine go_false ?_
              refine evSeq_go rfl (by simp [h0, h1, da, db, h2, h3, hl, dc, dr, one_le, hn8, hn16, hB4] <;> rfl) (by rfl) (by simp [hw]) ?_
              refine evSeq_go rfl (by simp [h0, h1, da, db, h2, h3, hl, dc, dr, one_le, hn8, hn16, hB4] <;> rfl) (by rfl) (by simp [hw]) ?_
              refine evSeq_go rfl (by simp [h0, h1, da, db, h2, h3, hl, dc, dr, one_le, hn8, hn16, hB4] <;> rfl) (by rfl) (by simp [hw]) ?_
              refine evSeq_off (by simp [wants, h0, h1, da, db, h2, h3, hl, dc, dr, one_le, hn8, hn16, hB4]) (by simp [hw]) ?_
              refine evSeq_off (by simp [wants, h0, h1, da, db, h2, h3, hl, dc, dr, one_le, hn8, hn16, hB4]) (by simp [hw]) ?_
              refine evSeq_off (by simp [wants, h0, h1, da, db, h2, h3, hl, dc, dr, one_le, hn8, hn16, hB4]) (by simp [hw]) ?_
              refine evSeq_off (by simp [wants, h0, h1, da, db, h2, h3, hl, dc, dr, one_le, hn8, hn16, hB4]) (by simp [hw]) ?_
              refine evSeq_off (by simp [wants, h0, h1, da, db, h2, h3, hl, dc, dr, one_le, hn8, hn16, hB4]) (by simp [hw]) ?_
              refine evSeq_off (by simp [wants, h0, h1, da, db, h2, h3, hl, dc, dr, one_le, hn8, hn16, hB4]) (by simp [hw]) ?_
              refine evSeq_off (by simp [wants, h0, h1, da, db, h2, h3, hl, dc, dr, one_le, hn8, hn16, hB4]) (by simp [hw]) ?_
              refine evSeq_off (by simp [wants, h0, h1, da, db, h2, h3, hl, dc, dr, one_le, hn8, hn16, hB4]) (by simp [hw]) ?_
              refine evSeq_off (by simp [wants, h0, h1, da, db, h2, h3, hl, dc, dr, one_le, hn8, hn16, hB4]) (by simp [hw]) ?_
              refine evSeq_off (by simp [wants, h0, h1, da, db, h2, h3, hl, dc, dr, one_le, hn8, hn16, hB4]) (by simp [hw]) ?_
              refine evSeq_off (by simp [wants, h0, h1, da, db, h2, h3, hl, dc, dr, one_le, hn8, hn16, hB4]) (by simp [hw]) ?_
              refine evSeq_off (by simp [wants, h0, h1, da, db, h2, h3, hl, dc, dr, one_le, hn8, hn16, hB4]) (by simp [hw]) ?_
              refine evSeq_go rfl (by simp [h0, h1, da, db, h2, h3, hl, dc, dr, one_le, hn8, hn16, hB4] <;> rfl) (by rfl) (by simp [hw]) ?_
              refine evSeq_go rfl (by simp [h0, h1, da, db, h2, h3, hl, dc, dr, one_le, hn8, hn16, hB4] <;> rfl) (by rfl) (by simp [hw]) ?_
              exact evSeq_nil
            refine inSeq_norm ?_
            refine Tri.ret ?_
            exact endsB (by simp [finish, evResults, evResult, Tryz.f49] <;> rfl) (by rfl)
          case true =>
            cases hB5 : (f2 : Bool)
            case false =>
              refine Tri.regN (t' := ?tq4tq5f19) (H' := ?Hq4tq5f19) TT_ok hC ?eq4tq5f19 ?qq4tq5f19
              case eq4tq5f19 =>
                refine go_false ?_
                refine evSeq_go rfl (by simp [h0, h1, da, db, h2, h3, hl, dc, dr, one_le, hn8, hn16, hB4, hB5] <;> rfl) (by rfl) (by simp [hw]) ?_
                refine evSeq_go rfl (by simp [h0, h1, da, db, h2, h3, hl, dc, dr, one_le, hn8, hn16, hB4, hB5] <;> rfl) (by rfl) (by simp [hw]) ?_
                refine evSeq_go rfl (by simp [h0, h1, da, db, h2, h3, hl, dc, dr, one_le, hn8, hn16, hB4, hB5] <;> rfl) (by rfl) (by simp [hw]) ?_
                refine evSeq_go (by simp [wants, h0, h1, da, db, h2, h3, hl, dc, dr, one_le, hn8, hn16, hB4, hB5]) (by simp [h0, h1, da, db, h2, h3, hl, dc, dr, one_le, hn8, hn16, hB4, hB5] <;> rfl) (by rfl) (by simp [hw]) ?_
                refine evSeq_go (by simp [wants, h0, h1, da, db, h2, h3, hl, dc, dr, one_le, hn8, hn16, hB4, hB5]) (by simp [h0, h1, da, db, h2, h3, hl, dc, dr, one_le, hn8, hn16, hB4, hB5] <;> rfl) (by rfl) (by simp [hw]) ?_
                refine evSeq_off (by simp [wants, h0, h1, da, db, h2, h3, hl, dc, dr, one_le, hn8, hn16, hB4, hB5]) (by simp [hw]) ?_
                refine evSeq_off (by simp [wants, h0, h1, da, db, h2, h3, hl, dc, dr, one_le, hn8, hn16, hB4, hB5]) (by simp [hw]) ?_
                refine evSeq_go (by simp [wants, h0, h1, da, db, h2, h3, hl, dc, dr, one_le, hn8, hn16, hB4, hB5]) (by simp [h0, h1, da, db, h2, h3, hl, dc, dr, one_le, hn8, hn16, hB4, hB5] <;> rfl) (by rfl) (by simp [hw]) ?_
                refine evSeq_go (by simp [wants, h0, h1, da, db, h2, h3, hl, dc, dr, one_le, hn8, hn16, hB4, hB5]) (by simp [h0, h1, da, db, h2, h3, hl, dc, dr, one_le, hn8, hn16, hB4, hB5] <;> rfl) (by rfl) (by simp [hw]) ?_
                refine evSeq_go (by simp [wants, h0, h1, da, db, h2, h3, hl, dc, dr, one_le, hn8, hn16, hB4, hB5]) (by simp [h0, h1, da, db, h2, h3, hl, dc, dr, one_le, hn8, hn16, hB4, hB5] <;> rfl) (by rfl) (by simp [hw]) ?_
                refine evSeq_go (by simp [wants, h0, h1, da, db, h2, h3, hl, dc, dr, one_le, hn8, hn16, hB4, hB5]) (by simp [h0, h1, da, db, h2, h3, hl, dc, dr, one_le, hn8, hn16, hB4, hB5] <;> rfl) (by rfl) (by simp [hw]) ?_
                refine evSeq_go (by simp [wants, h0, h1, da, db, h2, h3, hl, dc, dr, one_le, hn8, hn16, hB4, hB5]) (by simp [h0, h1, da, db, h2, h3, hl, dc, dr, one_le, hn8, hn16, hB4, hB5] <;> rfl) (by rfl) (by simp [hw]) ?_
                refine evSeq_go (by simp [wants, h0, h1, da, db, h2, h3, hl, dc, dr, one_le, hn8, hn16, hB4, hB5]) (by simp [h0, h1, da, db, h2, h3, hl, dc, dr, one_le, hn8, hn16, hB4, hB5] <;> rfl) (by rfl) (by simp [hw]) ?_
                refine evSeq_go (by simp [wants, h0, h1, da, db, h2, h3, hl, dc, dr, one_le, hn8, hn16, hB4, hB5]) (by simp [h0, h1, da, db, h2, h3, hl, dc, dr, one_le, hn8, hn16, hB4, hB5] <;> rfl) (by rfl) (by simp [hw]) ?_
                refine evSeq_go (by simp [wants, h0, h1, da, db, h2, h3, hl, dc, dr, one_le, hn8, hn16, hB4, hB5]) (by simp [h0, h1, da, db, h2, h3, hl, dc, dr, one_le, hn8, hn16, hB4, hB5] <;> rfl) (by rfl) (by simp [hw]) ?_
                refine evSeq_go rfl (by simp [h0, h1, da, db, h2, h3, hl, dc, dr, one_le, hn8, hn16, hB4, hB5] <;> rfl) (by rfl) (by simp [hw]) ?_
                refine evSeq_go rfl (by simp [h0, h1, da, db, h2, h3, hl, dc, dr, one_le, hn8, hn16, hB4, hB5] <;> rfl) (by rfl) (by simp [hw]) ?_
                exact evSeq_nil
              refine inSeq_norm ?_
              refine Tri.ret ?_
              exact endsB (by simp [finish, evResults, evResult, Tryz.f49] <;> rfl) (by rfl)
            case true =>
              cases hB6 : (qb : Bool)
              case false =>
                refine Tri.regN (t' := ?tq4tq5tq6f19) (H' := ?Hq4tq5tq6f19) TT_ok hC ?eq4tq5tq6f19 ?qq4tq5tq6f19
                case eq4tq5tq6f19 =>
                  refine go_false ?_
                  refine evSeq_go rfl (by simp [h0, h1, da, db, h2, h3, hl, dc, dr, one_le, hn8, hn16, hB4, hB5, hB6] <;> rfl) (by rfl) (by simp [hw]) ?_
                  refine evSeq_go rfl (by simp [h0, h1, da, db, h2, h3, hl, dc, dr, one_le, hn8, hn16, hB4, hB5, hB6] <;> rfl) (by rfl) (by simp [hw]) ?_
                  refine evSeq_go rfl (by simp [h0, h1, da, db, h2, h3, hl, dc, dr, one_le, hn8, hn16, hB4, hB5, hB6] <;> rfl) (by rfl) (by simp [hw]) ?_
                  refine evSeq_go (by simp [wants, h0, h1, da, db, h2, h3, hl, dc, dr, one_le, hn8, hn16, hB4, hB5, hB6]) (by simp [h0, h1, da, db, h2, h3, hl, dc, dr, one_le, hn8, hn16, hB4, hB5, hB6] <;> rfl) (by rfl) (by simp [hw]) ?_
                  refine evSeq_go (by simp [wants, h0, h1, da, db, h2, h3, hl, dc, dr, one_le, hn8, hn16, hB4, hB5, hB6]) (by simp [h0, h1, da, db, h2, h3, hl, dc, dr, one_le, hn8, hn16, hB4, hB5, hB6] <;> rfl) (by rfl) (by simp [hw]) ?_
                  refine evSeq_go (by simp [wants, h0, h1, da, db, h2, h3, hl, dc, dr, one_le, hn8, hn16, hB4, hB5, hB6]) (by simp [h0, h1, da, db, h2, h3, hl, dc, dr, one_le, hn8, hn16, hB4, hB5, hB6] <;> rfl) (by rfl) (by simp [hw]) ?_
                  refine evSeq_go (by simp [wants, h0, h1, da, db, h2, h3, hl, dc, dr, one_le, hn8, hn16, hB4, hB5, hB6]) (by simp [h0, h1, da, db, h2, h3, hl, dc, dr, one_le, hn8, hn16, hB4, hB5, hB6] <;> rfl) (by rfl) (by simp [hw]) ?_
                  refine evSeq_go (by simp [wants, h0, h1, da, db, h2, h3, hl, dc, dr, one_le, hn8, hn16, hB4, hB5, hB6]) (by simp [h0, h1, da, db, h2, h3, hl, dc, dr, one_le, hn8, hn16, hB4, hB5, hB6] <;> rfl) (by rfl) (by simp [hw]) ?_
                  refine evSeq_go (by simp [wants, h0, h1, da, db, h2, h3, hl, dc, dr, one_le, hn8, hn16, hB4, hB5, hB6]) (by simp [h0, h1, da, db, h2, h3, hl, dc, dr, one_le, hn8, hn16, hB4, hB5, hB6] <;> rfl) (by rfl) (by simp [hw]) ?_
                  refine evSeq_go (by simp [wants, h0, h1, da, db, h2, h3, hl, dc, dr, one_le, hn8, hn16, hB4, hB5, hB6]) (by simp [h0, h1, da, db, h2, h3, hl, dc, dr, one_le, hn8, hn16, hB4, hB5, hB6] <;> rfl) (by rfl) (by simp [hw]) ?_
                  refine evSeq_go (by simp [wants, h0, h1, da, db, h2, h3, hl, dc, dr, one_le, hn8, hn16, hB4, hB5, hB6]) (by simp [h0, h1, da, db, h2, h3, hl, dc, dr, one_le, hn8, hn16, hB4, hB5, hB6] <;> rfl) (by rfl) (by simp [hw]) ?_
                  refine evSeq_go (by simp [wants, h0, h1, da, db, h2, h3, hl, dc, dr, one_le, hn8, hn16, hB4, hB5, hB6]) (by simp [h0, h1, da, db, h2, h3, hl, dc, dr, one_le, hn8, hn16, hB4, hB5, hB6] <;> rfl) (by rfl) (by simp [hw]) ?_
                  refine evSeq_off (by simp [wants, h0, h1, da, db, h2, h3, hl, dc, dr, one_le, hn8, hn16, hB4, hB5, hB6]) (by simp [hw]) ?_
                  refine evSeq_go (by simp [wants, h0, h1, da, db, h2, h3, hl, dc, dr, one_le, hn8, hn16, hB4, hB5, hB6]) (by simp [h0, h1, da, db, h2, h3, hl, dc, dr, one_le, hn8, hn16, hB4, hB5, hB6] <;> rfl) (by rfl) (by simp [hw]) ?_
                  refine evSeq_go (by simp [wants, h0, h1, da, db, h2, h3, hl, dc, dr, one_le, hn8, hn16, hB4, hB5, hB6]) (by simp [h0, h1, da, db, h2, h3, hl, dc, dr, one_le, hn8, hn16, hB4, hB5, hB6] <;> rfl) (by rfl) (by simp [hw]) ?_
                  refine evSeq_go rfl (by simp [h0, h1, da, db, h2, h3, hl, dc, dr, one_le, hn8, hn16, hB4, hB5, hB6] <;> rfl) (by rfl) (by simp [hw]) ?_
                  refine evSeq_go rfl (by simp [h0, h1, da, db, h2, h3, hl, dc, dr, one_le, hn8, hn16, hB4, hB5, hB6] <;> rfl) (by rfl) (by simp [hw]) ?_
                  exact evSeq_nil
                refine inSeq_norm ?_
                refine Tri.ret ?_
                exact endsB (by simp [finish, evResults, evResult, Tryz.f49] <;> rfl) (by rfl)
              case true =>
                refine Tri.regN (t' := ?tq4tq5tq6t19) (H' := ?Hq4tq5tq6t19) TT_ok hC ?eq4tq5tq6t19 ?qq4tq5tq6t19
                case eq4tq5tq6t19 =>
                  refine go_false ?_
                  refine evSeq_go rfl (by simp [h0, h1, da, db, h2, h3, hl, dc, dr, one_le, hn8, hn16, hB4, hB5, hB6] <;> rfl) (by rfl) (by simp [hw]) ?_
                  refine evSeq_go rfl (by simp [h0, h1, da, db, h2, h3, hl, dc, dr, one_le, hn8, hn16, hB4, hB5, hB6] <;> rfl) (by rfl) (by simp [hw]) ?_
                  refine evSeq_go rfl (by simp [h0, h1, da, db, h2, h3, hl, dc, dr, one_le, hn8, hn16, hB4, hB5, hB6] <;> rfl) (by rfl) (by simp [hw]) ?_
                  refine evSeq_go (by simp [wants, h0, h1, da, db, h2, h3, hl, dc, dr, one_le, hn8, hn16, hB4, hB5, hB6]) (by simp [h0, h1, da, db, h2, h3, hl, dc, dr, one_le, hn8, hn16, hB4, hB5, hB6] <;> rfl) (by rfl) (by simp [hw]) ?_
                  refine evSeq_go (by simp [wants, h0, h1, da, db, h2, h3, hl, dc, dr, one_le, hn8, hn16, hB4, hB5, hB6]) (by simp [h0, h1, da, db, h2, h3, hl, dc, dr, one_le, hn8, hn16, hB4, hB5, hB6] <;> rfl) (by rfl) (by simp [hw]) ?_
                  refine evSeq_go (by simp [wants, h0, h1, da, db, h2, h3, hl, dc, dr, one_le, hn8, hn16, hB4, hB5, hB6]) (by simp [h0, h1, da, db, h2, h3, hl, dc, dr, one_le, hn8, hn16, hB4, hB5, hB6] <;> rfl) (by rfl) (by simp [hw]) ?_
                  refine evSeq_go (by simp [wants, h0, h1, da, db, h2, h3, hl, dc, dr, one_le, hn8, hn16, hB4, hB5, hB6]) (by simp [h0, h1, da, db, h2, h3, hl, dc, dr, one_le, hn8, hn16, hB4, hB5, hB6] <;> rfl) (by rfl) (by simp [hw]) ?_
                  refine evSeq_go (by simp [wants, h0, h1, da, db, h2, h3, hl, dc, dr, one_le, hn8, hn16, hB4, hB5, hB6]) (by simp [h0, h1, da, db, h2, h3, hl, dc, dr, one_le, hn8, hn16, hB4, hB5, hB6] <;> rfl) (by rfl) (by simp [hw]) ?_
                  refine evSeq_go (by simp [wants, h0, h1, da, db, h2, h3, hl, dc, dr, one_le, hn8, hn16, hB4, hB5, hB6]) (by simp [h0, h1, da, db, h2, h3, hl, dc, dr, one_le, hn8, hn16, hB4, hB5, hB6] <;> rfl) (by rfl) (by simp [hw]) ?_
                  refine evSeq_off (by simp [wants, h0, h1, da, db, h2, h3, hl, dc, dr, one_le, hn8, hn16, hB4, hB5, hB6]) (by simp [hw]) ?_
                  refine evSeq_off (by simp [wants, h0, h1, da, db, h2, h3, hl, dc, dr, one_le, hn8, hn16, hB4, hB5, hB6]) (by simp [hw]) ?_
                  refine evSeq_off (by simp [wants, h0, h1, da, db, h2, h3, hl, dc, dr, one_le, hn8, hn16, hB4, hB5, hB6]) (by simp [hw]) ?_
                  refine evSeq_off (by simp [wants, h0, h1, da, db, h2, h3, hl, dc, dr, one_le, hn8, hn16, hB4, hB5, hB6]) (by simp [hw]) ?_
                  refine evSeq_off (by simp [wants, h0, h1, da, db, h2, h3, hl, dc, dr, one_le, hn8, hn16, hB4, hB5, hB6]) (by simp [hw]) ?_
                  refine evSeq_go (by simp [wants, h0, h1, da, db, h2, h3, hl, dc, dr, one_le, hn8, hn16, hB4, hB5, hB6]) (by simp [h0, h1, da, db, h2, h3, hl, dc, dr, one_le, hn8, hn16, hB4, hB5, hB6] <;> rfl) (by rfl) (by simp [hw]) ?_
                  refine evSeq_go rfl (by simp [h0, h1, da, db, h2, h3, hl, dc, dr, one_le, hn8, hn16, hB4, hB5, hB6] <;> rfl) (by rfl) (by simp [hw]) ?_
                  refine evSeq_go rfl (by simp [h0, h1, da, db, h2, h3, hl, dc, dr, one_le, hn8, hn16, hB4, hB5, hB6] <;> rfl) (by rfl) (by simp [hw]) ?_
                  exact evSeq_nil
                refine inSeq_norm ?_
                refine Tri.ret ?_
                exact endsB (by simp [finish, evResults, evResult, Tryz.f49] <;> rfl) (by rfl)
    case n6 =>
      intro hn6
      exact absurd hn6 (by simp [h0, h1, da, db, h2, h3, hl, dc, dr, one_le])
theorem body_35l {call : CallF} (hC : call.Sound Tryz.prog TT) (s : List UInt8) (hl : decide ((20000 : Int) < s.length) = true)  : EBody Tryz.prog TT 49 [.s s] (fun r => ∃ b : Bool, r = .val (.b b)) := by
  refine ⟨Tryz.f49, _, rfl, rfl, by simp [Tryz.f49], ?_⟩
  have h0 : (Tm.init Tryz.f49.ntmps [.s s]).get 0 = .s s := by rw [get_init]; rfl
  have hw : (Tm.init Tryz.f49.ntmps [.s s]).wid = 53 := rfl
  generalize Tm.init Tryz.f49.ntmps [.s s] = t at *
  try simp only [Nd.enc_eq] at *
  refine Tri.seq' ?_
  refine Tri.regN (t' := ?t1) (H' := ?H1) TT_ok hC ?e1 ?q1
  case e1 =>
    refine go_false ?_
    refine evSeq_go rfl (by simp [h0, hl] <;> rfl) (by rfl) (by simp [hw]) ?_
    exact evSeq_nil
  refine inSeq_norm ?_
  refine Tri.seq' ?_
  refine Tri.seq' ?_
  refine Tri.regN (t' := ?t2) (H' := ?H2) TT_ok hC ?e2 ?q2
  case e2 =>
    refine go_false ?_
    refine evSeq_go rfl (by simp [h0, hl] <;> rfl) (by rfl) (by simp [hw]) ?_
    refine evSeq_go rfl (by simp [h0, hl] <;> rfl) (by rfl) (by simp [hw]) ?_
    refine evSeq_go rfl (by simp [h0, hl] <;> rfl) (by rfl) (by simp [hw]) ?_
    exact evSeq_nil
  refine inSeq_norm ?_
  refine Tri.condG (o := ?o3) (b := ?b3) ?g3 ?r3 ?y3 ?n3
  case g3 => simp [h0, hl] <;> rfl
  case r3 => rfl
  case y3 =>
    intro hy3
    refine Tri.seq' ?_
    refine Tri.regN (t' := ?t4) (H' := ?H4) TT_ok hC ?e4 ?q4
    case e4 =>
      refine go_false ?_
      refine evSeq_go rfl (by simp [h0, hl] <;> rfl) (by rfl) (by simp [hw]) ?_
      exact evSeq_nil
    refine inSeq_norm ?_
    refine Tri.ret ?_
    refine inSeq_ret ?_
    exact endsB (by simp [finish, evResults, evResult, Tryz.f49] <;> rfl) (by rfl)
  case n3 =>
    intro hn3
    exact absurd hn3 (by simp [h0, hl])
end Go.Ev
