/- Bounds of tokens, and token. The loop of Scan. Trees of Quote. Quote. Scan. Two given texts scanned. Two literals behind each other are scanned to their two texts. awake returns true. What the row's list of tables says of the world, and that a text reads as its bytes. The digits of the program and of the reference. The ends of numbers, the exponent. The numbers of the program are those of the reference. Escapes, strings and characters of the program are those of the reference. Walks: TokenStrings. TokenStrings returns true. Keywords; slices.Equal on the lists of the keywords and of the symbols. Blanks, comments and tokens of the program are those of the reference. A token in another surrounding: names and numbers. A token in another surrounding: strings and symbols. Blanks and comments in another surrounding. -/
import Derived.Test.YtmjplflnlggbeaaGreatDoorFZE
import Derived.Test.YtmjplflnlggbeaaGreatDoorFWE
import Derived.Test.YtmjplflnlggbeaaGreatDoorFK8
import Derived.Test.YtmjplflnlggbeaaGreatDoorFEvFunX
import Derived.Test.YtmjplflnlggbeaaGreatDoorRows
import Derived.ChangeArms
import Derived.ChangeSame
import Derived.ChangeReads
import Derived.ReadAgain
import Derived.Deep.Strs
import Derived.Lib.LaidTab
import Derived.Lib.LaidU8T
import Derived.MakeChecks
import Derived.Shelf.Vars
namespace Go.Ev
open Go Go.Proofs
set_option linter.unusedSimpArgs false
set_option linter.unusedVariables false
set_option linter.unnecessarySimpa false
set_option maxRecDepth 1000000
theorem pfxQ_ok {x : List UInt8} {base : Nat} {r : Int × List UInt8 × Nat} (hl : 2 ≤ x.length) (h : pfxQ x base = some r) : 0 < r.2.2 ∧ r.2.2 ≤ x.length := by
 unfold pfxQ at h;split at h
 ·cases h
 ·rename_i n hn;have := runF_le base _ _ _ hn;rw [List.length_drop] at this;split at h
  ·split at h
   ·cases h
   ·split at h
    ·have h := Option.some.inj h;rw [← h];exact ⟨by simp only; omega, by simp only; omega⟩
    ·cases h
  ·cases h
theorem tailQ_ok {x : List UInt8} {m : Nat} {r : Bool} {p : Nat × Bool} (hm : m ≤ x.length) (h : tailQ x m r = some p) : m ≤ p.1 ∧ p.1 ≤ x.length := by
 unfold tailQ at h;split at h
 ·cases h
 ·rename_i k hk;have := expF_le _ _ hk;rw [List.length_drop] at this;split at h
  ·split at h
   ·have h := Option.some.inj h; rw [← h]; exact ⟨by simp only; omega, by simp only; omega⟩
   ·cases h
  ·split at h
   ·have h := Option.some.inj h; rw [← h]; exact ⟨Nat.le_refl _, hm⟩
   ·cases h
theorem decF_ok {x : List UInt8} {p : Nat × Bool} (h : decF x = some p) : p.1 ≤ x.length ∧ ∀ n, runF 10 x 0 = some n → n ≤ p.1 := by
 unfold decF at h;split at h
 ·cases h
 ·rename_i n hn;have hnl := runF_le 10 _ _ _ hn;split at h
  ·split at h
   ·cases h
   ·rename_i k hk;have hkl := runF_le 10 _ _ _ hk;rw [List.length_drop] at hkl;obtain ⟨h1, h2⟩ := tailQ_ok (by omega) h;exact ⟨h2, fun n' hn' => by rw [hn] at hn'; cases hn'; omega⟩
  ·obtain ⟨h1, h2⟩ := tailQ_ok (by omega) h;exact ⟨h2, fun n' hn' => by rw [hn] at hn'; cases hn'; omega⟩
theorem runF_ge (base : Int) : ∀ (L : List UInt8) (n m : Nat), runF base L n = some m → n ≤ m
 | [], n, m, h => by simp [runF] at h; omega
 | c :: r, n, m, h => by
  simp only [runF] at h;split at h
  ·have := runF_ge base r (n + 1) m h; omega
  ·split at h
   ·have := Option.some.inj h; omega
   ·split at h
    ·split at h
     ·have := runF_ge base _ (n + 1) m h; omega
     ·cases h
    ·cases h
theorem runF_dig {x : List UInt8} {m : Nat} (hd : (decide (48 ≤ atS x 0) && decide (atS x 0 ≤ 57)) = true) (h : runF 10 x 0 = some m) : 0 < m := by
 cases x with
 | nil => simp [atS] at hd
 | cons c r =>
  simp only [Bool.and_eq_true, decide_eq_true_eq] at hd;have e : atS (c :: r) 0 = c.toNat := by simp [atS]
  rw [e] at hd;simp only [runF] at h;rw [if_pos (by unfold valN digN; rw [if_pos hd, if_neg (by omega)]; omega)] at h;have := runF_ge 10 r 1 m h;omega
theorem numQ_ok {x : List UInt8} {r : Int × List UInt8 × Nat} (h : numQ x = some r) : r.2.2 ≤ x.length ∧ ((decide (48 ≤ atS x 0) && decide (atS x 0 ≤ 57)) = true → 0 < r.2.2) := by
 rw [numQ_eq] at h;split at h
 ·rename_i hp;have := preR_len hp;simp only [List.length_cons, List.length_nil] at this;exact ⟨(pfxQ_ok (by omega) h).2, fun _ => (pfxQ_ok (by omega) h).1⟩
 ·split at h
  ·rename_i hp;have := preR_len hp;simp only [List.length_cons, List.length_nil] at this;exact ⟨(pfxQ_ok (by omega) h).2, fun _ => (pfxQ_ok (by omega) h).1⟩
  ·cases hd : decF x with
   | none => rw [hd] at h; cases h
   | some p =>
    obtain ⟨k1, k2⟩ := decF_ok hd;have k3 : (decide (48 ≤ atS x 0) && decide (atS x 0 ≤ 57)) = true → 0 < p.1 := fun hg => by
     cases hr : runF 10 x 0 with
     | none => simp [decF, hr] at hd
     | some n => have := k2 n hr; have := runF_dig hg hr; omega
    obtain ⟨m, b⟩ := p;rw [hd] at h;cases b with
    | true => simp only [decO] at h; have h := Option.some.inj h; rw [← h]; exact ⟨k1, k3⟩
    | false =>
     simp only [decO] at h;split at h
     ·cases h
     ·have h := Option.some.inj h; rw [← h]; exact ⟨k1, k3⟩
theorem sgF_le (x : List UInt8) : ∀ (L : List (List UInt8)) (b : List UInt8), b.length ≤ x.length → (sgF x L b).length ≤ x.length
 | [], b, h => h
 | y :: L, b, h => by
  simp only [sgF];refine sgF_le x L _ ?_;split
  ·rename_i hy;unfold okP at hy;simp only [Bool.and_eq_true] at hy;exact preR_len hy.2.1
  ·exact h
theorem skF_ok (s : List UInt8) : ∀ (n i : Nat) (l : Bool) (j : Nat) (l' : Bool), i ≤ s.length → skF s n i l = .inr (j, l') → i ≤ j ∧ j ≤ s.length
 | 0, i, l, j, l', hi, h => by simp [skF] at h; omega
 | n + 1, i, l, j, l', hi, h => by
  simp only [skF] at h;split at h
  ·split at h
   ·have := skF_ok s n (i + 1) _ j l' (by omega) h; omega
   ·split at h
    ·simp at h; omega
    ·cases h
    ·rename_i p hp;obtain ⟨q1, q2⟩ := comQ_ok hi hp;have := skF_ok s n p.1 p.2 j l' q2 h; omega
  ·simp at h; omega
theorem skQ_ok {s : List UInt8} {i j : Nat} {l l' : Bool} (hi : i ≤ s.length) (h : skQ s i l = .inr (j, l')) : i ≤ j ∧ j ≤ s.length := skF_ok s _ i l j l' hi h
theorem tokQ_ok {x : List UInt8} {p : Int × List UInt8 × Nat} (h : tokQ kw numQ x = .inr p) : 0 < p.2.2 ∧ p.2.2 ≤ x.length := by
 have hle := sgF_le x sgnL [] (by simp);unfold tokQ at h;generalize sgF x sgnL [] = g at h hle;split at h
 ·rename_i h0;cases h;exact ⟨h0, (idR_le (Nat.zero_le _)).2⟩
 ·split at h
  ·rename_i hd;cases hn : numQ x with
   | none => rw [hn] at h; cases h
   | some r =>
    rw [hn] at h;cases h;obtain ⟨k1, k2⟩ := numQ_ok hn;exact ⟨k2 hd, k1⟩
  ·split at h
   ·cases hc : chrQ x with
    | none => rw [hc] at h; cases h
    | some r => rw [hc] at h; cases h; exact chrQ_ok hc
   ·split at h
    ·cases hc : txtQ x with
     | none => rw [hc] at h; cases h
     | some r => rw [hc] at h; cases h; exact txtQ_ok hc
    ·split at h
     ·rename_i hs;cases h;exact ⟨hs, hle⟩
     ·cases h
def TokD (D : List UInt8 → Prop) (x : List UInt8) : Prop := (decide (48 ≤ atS x 0) && decide (atS x 0 ≤ 57)) = true → D x
theorem sp2031_of (D : List UInt8 → Prop) (hf : ∀ s at_, D s → s.length < 1100000 → FltH s at_) : ∃ g, SpecOK Tryz.prog TT 31 g ∧ ∀ (q : Nat) (s : List UInt8) (i : Nat) (l : Bool) (m : Nat) (H : Heap), ScB H q s i l m → i < s.length → s.length < 1090000 → H[m]? = kwHeap[0]? → m ≠ q → TokD D (s.drop i) →
 tokS H q s i l m (tokQ kw numQ (s.drop i)) (g [.ptr q 0] H) := by
 obtain ⟨g1, k1, s1⟩ := sp2055;obtain ⟨g2, k2, s2⟩ := sp2048;obtain ⟨g3, k3, s3⟩ := sp71p;obtain ⟨g4, k4, s4⟩ := sp99p;obtain ⟨g5, k5, s5⟩ := sp2054;obtain ⟨g6, k6, s6⟩ := sp2052;obtain ⟨g7, k7, s7⟩ := sp2053;obtain ⟨g8, k8, s8⟩ := sp2051_of D hf;have hC := ws (ws (ws (ws (ws (ws (ws (ws n0 k1) k2) k3) k4) k5) k6) k7) k8;have hm : MustH ((((((((CallF.none.with 55 g1).with 48 g2).with 49 g3).with 50 g4).with 54 g5).with 52 g6).with 53 g7).with 51 g8) := fun b e k H => by
  rw [w_other _ _ _ _ rfl, w_other _ _ _ _ rfl, w_other _ _ _ _ rfl, w_other _ _ _ _ rfl, w_other _ _ _ _ rfl, w_other _ _ _ _ rfl, w_other _ _ _ _ rfl, w_here]; exact s1 b e k H
 have c2 : ∀ (n : Nat) (s : List UInt8) (i : Nat) (l : Bool) (m : Nat) (H : Heap), ScB H n s i l m → i ≤ s.length → ((((((((CallF.none.with 55 g1).with 48 g2).with 49 g3).with 50 g4).with 54 g5).with 52 g6).with 53 g7).with 51 g8) 48 [.ptr n 0] H = .val (.s (s.drop i)) H := fun n s i l m H h1 h2 => by
  rw [w_other _ _ _ _ rfl, w_other _ _ _ _ rfl, w_other _ _ _ _ rfl, w_other _ _ _ _ rfl, w_other _ _ _ _ rfl, w_other _ _ _ _ rfl, w_here]; exact s2 n s i l m H h1 h2
 have c3 : ∀ x : List UInt8, x.length < 1090000 → ∀ H, ((((((((CallF.none.with 55 g1).with 48 g2).with 49 g3).with 50 g4).with 54 g5).with 52 g6).with 53 g7).with 51 g8) 49 [.s x] H = .val (.i .i64 (idR x 0 : Nat)) H := fun x hx H => by
  rw [w_other _ _ _ _ rfl, w_other _ _ _ _ rfl, w_other _ _ _ _ rfl, w_other _ _ _ _ rfl, w_other _ _ _ _ rfl, w_here]; exact s3 x hx H
 have c4 : ∀ c : Int, ∀ H, ((((((((CallF.none.with 55 g1).with 48 g2).with 49 g3).with 50 g4).with 54 g5).with 52 g6).with 53 g7).with 51 g8) 50 [.i .u8 c] H = .val (.b (decide (48 ≤ c) && decide (c ≤ 57))) H := fun c H => by
  rw [w_other _ _ _ _ rfl, w_other _ _ _ _ rfl, w_other _ _ _ _ rfl, w_other _ _ _ _ rfl, w_here]; exact s4 c trivial H
 have c5 : ∀ x : List UInt8, ∀ H, ((((((((CallF.none.with 55 g1).with 48 g2).with 49 g3).with 50 g4).with 54 g5).with 52 g6).with 53 g7).with 51 g8) 54 [.s x] H = .val (.s (sgF x sgnL [])) H := fun x H => by
  rw [w_other _ _ _ _ rfl, w_other _ _ _ _ rfl, w_other _ _ _ _ rfl, w_here]; exact s5 x trivial H
 have c6 : ∀ (x : List UInt8) (a : Int), (0 < x.length ∧ x.length < 1100000) → ∀ H, ((((((((CallF.none.with 55 g1).with 48 g2).with 49 g3).with 50 g4).with 54 g5).with 52 g6).with 53 g7).with 51 g8) 52 [.s x, .i .i64 a] H = (escRes (chrQ x) a).at H := fun x a hx H => by
  rw [w_other _ _ _ _ rfl, w_other _ _ _ _ rfl, w_here]; exact s6 (x, a) hx H
 have c7 : ∀ (x : List UInt8) (a : Int), (0 < x.length ∧ x.length < 1100000) → ∀ H, ((((((((CallF.none.with 55 g1).with 48 g2).with 49 g3).with 50 g4).with 54 g5).with 52 g6).with 53 g7).with 51 g8) 53 [.s x, .i .i64 a] H = (escRes (txtQ x) a).at H := fun x a hx H => by
  rw [w_other _ _ _ _ rfl, w_here]; exact s7 (x, a) hx H
 have c8 : ∀ (x : List UInt8) (a : Int), D x → x.length < 1100000 → ∀ H, ((((((((CallF.none.with 55 g1).with 48 g2).with 49 g3).with 50 g4).with 54 g5).with 52 g6).with 53 g7).with 51 g8) 51 [.s x, .i .i64 a] H = (numV (numQ x) a).at H := fun x a hd hx H => by
  rw [w_here]; exact s8 x a hd hx H
 generalize (((((((CallF.none.with 55 g1).with 48 g2).with 49 g3).with 50 g4).with 54 g5).with 52 g6).with 53 g7).with 51 g8 = call at hC hm c2 c3 c4 c5 c6 c7 c8;obtain ⟨g, k, h⟩ := spec_hp TT_ok 31 (fun p : Nat × List UInt8 × Nat × Bool × Nat => [.ptr p.1 0]) (fun p H => ScB H p.1 p.2.1 p.2.2.1 p.2.2.2.1 p.2.2.2.2 ∧ p.2.2.1 < p.2.1.length ∧ p.2.1.length < 1090000 ∧ H[p.2.2.2.2]? = kwHeap[0]? ∧ p.2.2.2.2 ≠ p.1 ∧ TokD D (p.2.1.drop p.2.2.1))
  (fun p H r => tokS H p.1 p.2.1 p.2.2.1 p.2.2.2.1 p.2.2.2.2 (tokQ kw numQ (p.2.1.drop p.2.2.1)) r) (by
  rintro ⟨n, s, i, l, m⟩ ⟨n', s', i', l', m'⟩ H r ⟨h1, _⟩ ⟨h2, _⟩ he hr;simp only [List.cons.injEq, V.ptr.injEq, and_true] at he;subst he;obtain ⟨rfl, rfl, rfl, rfl⟩ := h1.inj h2;exact hr) (by
  rintro ⟨q, s, i, l, m⟩ H ⟨hb, hi, hs, hkm, hmq, hd⟩;simp only at hb hi hs hkm hmq hd ⊢;have hm0 : m < H.length := by
   have : kwHeap[0]? ≠ none := by decide
   rw [← hkm] at this;exact Nat.lt_of_not_le fun h => this (List.getElem?_eq_none h)
  have hlen : (s.drop i).length ≤ s.length := by rw [List.length_drop]; omega
  refine body_tok hC hm c2 q s (fun x hx H => c3 x (by omega) H) i l m H hb hi (by omega) kw numQ hm0 hmq (fun y K hK => kw_look (hK.trans hkm) y) c4 c5 c6 c7 (fun hg a K => ?_) (fun r hr => ?_) (fun p hp => ?_) (fun p hp => ?_) (sgF_len _)
  ·rw [c8 _ a (hd hg) (by omega) K];cases numQ (s.drop i) <;> rfl
  ·have := (numQ_ok hr).1; omega
  ·have := (chrQ_ok hp).2; omega
  ·have := (txtQ_ok hp).2; omega)
 exact ⟨g, k, fun q s i l m H h1 h2 h3 h4 h5 h6 => h (q, s, i, l, m) H ⟨h1, h2, h3, h4, h5, h6⟩⟩
def scnF (s : List UInt8) : Nat → Nat → Bool → List Tk → List Tk ⊕ (Nat × Nat)
 | 0, _, _, acc => .inl acc
 | n + 1, i, l, acc => match skQ s i l with
  | .inl a => .inr (a, 32)
  | .inr (j, l') => if j = s.length then .inl acc else match tokQ kw numQ (s.drop j) with
   | .inl e => .inr (j, e)
   | .inr (k, t, m) => scnF s n (j + m) false (acc ++ [(k, t, (j : Int), l')])
def scnD (D : List UInt8 → Prop) (s : List UInt8) : Nat → Nat → Bool → Prop
 | 0, _, _ => True
 | n + 1, i, l => match skQ s i l with
  | .inl a => True
  | .inr (j, l') => j = s.length ∨ (TokD D (s.drop j) ∧ match tokQ kw numQ (s.drop j) with
   | .inl e => True
   | .inr (k, t, m) => scnD D s n (j + m) false)
theorem scnD_true (s : List UInt8) : ∀ (n i : Nat) (l : Bool), scnD (fun _ => True) s n i l
 | 0, _, _ => trivial
 | n + 1, i, l => by
  unfold scnD;split
  ·trivial
  ·refine .inr ⟨fun _ => trivial, ?_⟩;split
   ·trivial
   ·exact scnD_true s n _ _
def OutP (H : Heap) (q m : Nat) (v : V) (l : List Tk) : Prop := (v = .nils ∧ l = []) ∨ ∃ n, v = .sl n 4 0 l.length none ∧ H[n]? = some (some { ty := 34, cells := tkC l, kind := .more }) ∧ 3 ≤ n ∧ n ≠ q ∧ n ≠ m
theorem bsTokP (v : Tk) (H : Heap) : evBuildSlice TT 23 1 [(0, .agg (tkL v))] H = .val (.sl H.length 4 0 1 (some 1)) (H ++ [some { ty := 34, cells := tkL v, kind := .all }]) := by
 have e1 : TT.und 23 = some (.slice 34) := rfl;have e2 : TT.size 34 = some 4 := rfl;have e3 : TT.zero 34 = some (.agg [.i .i64 0, .s [], .i .i64 0, .b false]) := rfl;simp only [evBuildSlice, e1, e2, e3];simp [reps, fillV, splice, newB_eq, V.cells, tkL]
theorem appTokP {H : Heap} {q m : Nat} {v : V} {l : List Tk} (h : OutP H q m v l) (hl : l.length < 100000000) (x : Tk) {b : Nat} (hb : H[b]? = some (some { ty := 34, cells := tkL x, kind := .all })) (hq : q < H.length) (hm : m < H.length) (h3 : 3 ≤ H.length) :
 ∃ v2 H2, evAppend TT 23 v (.sl b 4 0 1 (some 1)) H = .val v2 H2 ∧ OutP H2 q m v2 (l ++ [x]) ∧ H.length ≤ H2.length ∧ (∀ j, (j < 3 ∨ j = q ∨ j = m) → H2[j]? = H[j]?) := by
 have e1 : TT.und 23 = some (.slice 34) := rfl;have e2 : TT.size 34 = some 4 := rfl;have e3 : TT.zero 34 = some (.agg [.i .i64 0, .s [], .i .i64 0, .b false]) := rfl;have e4 : TT.bytes 34 = some 40 := rfl;have c1 : cellsAt H b = some { ty := 34, cells := tkL x, kind := .all } := by simp [cellsAt, hb]
 have c3 : cut (tkL x) (0 * 4) (1 * 4) = some (tkL x) := by simp [cut, tkL]
 have f1 : (tkL x).all flat = true := by simp [tkL, flat]
 have f2 : (V.agg [.i .i64 0, .s [], .i .i64 0, .b false]).cells.length = 4 := rfl;have keep : ∀ (n : Nat) (K : Heap), 3 ≤ n → n ≠ q → n ≠ m → ∀ j, (j < 3 ∨ j = q ∨ j = m) → (H.set n none ++ K)[j]? = H[j]? := by
  intro n K h1 h2 h3' j hj;have hjl : j < H.length := by rcases hj with hj | rfl | rfl <;> omega
  rw [List.getElem?_append_left (by rw [List.length_set]; exact hjl), List.getElem?_set_ne (by rcases hj with hj | rfl | rfl <;> omega)]
 rcases h with ⟨rfl, rfl⟩ | ⟨n, rfl, hn, hn3, hnq, hnm⟩
 ·simp only [evAppend, e1, e2, e3, e4, appended, c1, c3, Option.map_some, if_true];rw [if_pos ⟨by decide, f2, by decide, f1⟩];simp only [newB_eq];rw [if_neg (by decide), if_pos ⟨by omega, by omega⟩];refine ⟨_, _, rfl, .inr ⟨H.length, rfl, by simp [tkC], h3, by omega, by omega⟩, by simp, fun j hj => ?_⟩;rw [List.getElem?_append_left (by rcases hj with hj | rfl | rfl <;> omega)]
 ·have c2 : cellsAt H n = some { ty := 34, cells := tkC l, kind := .more } := by simp [cellsAt, hn]
  have c4 : cut (tkC l) (0 * 4) (l.length * 4) = some (tkC l) := by simp [cut, ← tkC_length]
  have hlen := tkC_length l;simp only [evAppend, e1, e2, e3, e4, appended, c1, c2, c3, c4, Option.map_some, if_true];rw [if_pos ⟨by decide, f2, by decide, f1⟩, if_pos ⟨trivial, by omega, by omega⟩];simp only [newB_eq, setK_eq];rw [if_neg (by decide), if_pos ⟨trivial, by omega, trivial⟩];refine ⟨_, _, rfl, .inr ⟨H.length, by simp, ?_, h3, by omega, by omega⟩, by simp, keep n _ hn3 hnq hnm⟩;rw [tkC_snoc];simp
structure SI (H : Heap) (q m : Nat) (s : List UInt8) (i : Nat) (l : Bool) (v : V) (acc : List Tk) : Prop where
  c0 : H[0]? = some (some ⟨23, [v], .all⟩)
  c1 : H[1]? = some (some ⟨3, [.i .i64 0], .all⟩)
  c2 : H[2]? = some (some ⟨24, [.i .i64 0], .all⟩)
  sc : ScB H q s i l m
  kw : H[m]? = kwHeap[0]?
  out : OutP H q m v acc
  q3 : 3 ≤ q
  m3 : 3 ≤ m
  ne : m ≠ q
theorem SI.lt {H : Heap} {q m : Nat} {s : List UInt8} {i : Nat} {l : Bool} {v : V} {acc : List Tk} (h : SI H q m s i l v acc) : q < H.length ∧ m < H.length := by
 refine ⟨Heap.lt h.sc, ?_⟩;have : kwHeap[0]? ≠ none := by decide
 rw [← h.kw] at this;exact Nat.lt_of_not_le fun h => this (List.getElem?_eq_none h)
theorem SI.keep {H H' : Heap} {q m : Nat} {s : List UInt8} {i i' : Nat} {l l' : Bool} {v : V} {acc : List Tk} (h : SI H q m s i l v acc) (hs : ScB H' q s i' l' m) (hk : ∀ j, j < H.length → j ≠ q → H'[j]? = H[j]?) : SI H' q m s i' l' v acc := by
 obtain ⟨hq, hm⟩ := h.lt;have q3 := h.q3;have m3 := h.m3;refine ⟨by rw [hk 0 (by omega) (by omega)]; exact h.c0, by rw [hk 1 (by omega) (by omega)]; exact h.c1, by rw [hk 2 (by omega) (by omega)]; exact h.c2, hs, by rw [hk m hm h.ne]; exact h.kw, ?_, q3, m3, h.ne⟩;rcases h.out with h | ⟨n, h1, h2, h3, h4, h5⟩
 ·exact .inl h
 ·exact .inr ⟨n, h1, by rw [hk n (Heap.lt h2) h4]; exact h2, h3, h4, h5⟩
theorem SI.set {H : Heap} {q m : Nat} {s : List UInt8} {i i' : Nat} {l l' : Bool} {v : V} {acc : List Tk} (h : SI H q m s i l v acc) : SI (H.set q (some (scB s i' l' m))) q m s i' l' v acc := by
 refine h.keep (by unfold ScB; rw [List.getElem?_set_self h.lt.1]) fun j _ hj => ?_;rw [List.getElem?_set_ne (fun e => hj e.symm)]
theorem OutP.cell {H : Heap} {q m : Nat} {v : V} {l : List Tk} (h : OutP H q m v l) : v.cells = [v] ∧ flat v = true := by
 rcases h with ⟨rfl, _⟩ | ⟨n, rfl, _⟩ <;> exact ⟨rfl, rfl⟩
theorem tok_ne (j : Nat) (n : Nat) (h : ¬ j = n) : (((j : Nat) : Int) == (n : Nat)) = false := by
 simp; omega
set_option maxHeartbeats 1000000 in
theorem loop_scn {call : CallF} (hC : call.Sound Tryz.prog TT) (D : List UInt8 → Prop) (s : List UInt8) (hs : s.length ≤ 20000) (q m : Nat)
 (hskip : ∀ (i : Nat) (l : Bool) (H : Heap), ScB H q s i l m → i ≤ s.length → skR H q s m (skQ s i l) (call 30 [.ptr q 0] H))
 (htok : ∀ (i : Nat) (l : Bool) (H : Heap), ScB H q s i l m → i < s.length → H[m]? = kwHeap[0]? → m ≠ q → TokD D (s.drop i) → tokS H q s i l m (tokQ kw numQ (s.drop i)) (call 31 [.ptr q 0] H)) {Q : Out → Prop} :
 ∀ (n i : Nat) (l : Bool) (v : V) (acc : List Tk) (t : Tm) (H : Heap), s.length < n + i → i ≤ s.length → acc.length ≤ i → SI H q m s i l v acc → scnD D s n i l → t.wid = 32 → t.get 0 = .s s → t.get 2 = .ptr 0 0 → t.get 3 = .ptr 1 0 → t.get 4 = .ptr 2 0 → t.get 5 = .ptr q 0 →
  (∀ (t' : Tm) (H' : Heap) (toks : List Tk) (v : V), scnF s n i l acc = .inl toks → t'.get 2 = .ptr 0 0 → t'.get 3 = .ptr 1 0 → t'.get 4 = .ptr 2 0 → H'[0]? = some (some ⟨23, [v], .all⟩) → H'[1]? = some (some ⟨3, [.i .i64 0], .all⟩) → H'[2]? = some (some ⟨24, [.i .i64 0], .all⟩) → OutP H' q m v toks → Q (.ret t' H')) →
  (∀ (t' : Tm) (H' : Heap) (a e : Nat) (v : V), scnF s n i l acc = .inr (a, e) → t'.get 2 = .ptr 0 0 → t'.get 3 = .ptr 1 0 → t'.get 4 = .ptr 2 0 → H'[0]? = some (some ⟨23, [v], .all⟩) → H'[1]? = some (some ⟨3, [.i .i64 0], .all⟩) → H'[2]? = some (some ⟨24, [.i .i64 0], .all⟩) → Q (.pan (fltV e a) t' H')) →
  LTri Tryz.prog TT (sub [true, true, true, true, false, false] (bodyOf Tryz.f11)) t H Q := by
 have ex1 : TT.ext 30 = none := rfl;have ex2 : TT.ext 31 = none := rfl;have ci : ∀ (k : IntKind) (n : Int), (V.i k n).cells = [V.i k n] := fun _ _ => rfl;have fi : ∀ (k : IntKind) (n : Int), flat (V.i k n) = true := fun _ _ => rfl;intro n;induction n with
 | zero => intro i l v acc t H h1 h2; omega
 | succ n ih =>
  intro i l v acc t H hn hi hacc hI hD hw t0 t2 t3 t4 t5 hR hP;obtain ⟨hql, hml⟩ := hI.lt;have q3 := hI.q3;have m3 := hI.m3;have hsk := hskip i l H hI.sc hi;rcases hk : skQ s i l with a | ⟨j, l'⟩
  ·rw [hk] at hsk;obtain ⟨b, hsk⟩ := hsk;have hF := ai @t5 (ai @hsk @ex1);refine LTri.round' ?_;apply bK;apply sQ;refine Tri.regP (v := ?v1) (t' := ?t1) (H' := ?H1) TT_ok hC ?e1 ?q1;case e1 =>
    refine go_false ?_;refine oA ?_;refine evSeq_panG rfl (by simp [hF] <;> rfl) (by rfl) ?_;exact rfl
   refine inSeq_pan ?_;refine inBlk_pan ?_;refine inLoop_pan ?_;refine hP _ _ a 32 v (by simp only [scnF, hk]) (by simp [t2]) (by simp [t3]) (by simp [t4]) ?_ ?_ ?_
   ·rw [List.getElem?_set_ne (by omega)]; exact hI.c0
   ·rw [List.getElem?_set_ne (by omega)]; exact hI.c1
   ·rw [List.getElem?_set_ne (by omega)]; exact hI.c2
  ·rw [hk] at hsk;have hsk : call 30 [.ptr q 0] H = .val .un (H.set q (some (scB s j l' m))) := hsk;have hI1 : SI (H.set q (some (scB s j l' m))) q m s j l' v acc := hI.set;obtain ⟨hij, hjl⟩ : i ≤ j ∧ j ≤ s.length := skQ_ok hi hk;generalize hH1 : H.set q (some (scB s j l' m)) = H1 at hsk hI1;have g0 := hI1.c0;have g1 := hI1.c1;have g2 := hI1.c2;have gq : H1[q]? = some (some (scB s j l' m)) := hI1.sc;obtain ⟨hvc, hvf⟩ := hI1.out.cell;obtain ⟨hql1, hml1⟩ := hI1.lt;have gl0 : 0 < H1.length := by omega
   have gl1 : 1 < H1.length := by omega
   have gl2 : 2 < H1.length := by omega
   refine LTri.round' ?_;apply bK;apply sQ;refine Tri.regN (t' := ?t2) (H' := ?H2) TT_ok hC ?e2 ?q2;case e2 =>
    refine go_false ?_;iterate 2 refine evSeq_go rfl (by simp [t5, hsk, ex1] <;> rfl) (by rfl) (by simp [hw]) ?_
    exact evSeq_nil
   apply sN;iterate 2 apply sQ
   by_cases hend : j = s.length
   ·have hee : (((j : Nat) : Int) == (s.length : Nat)) = true := by rw [hend]; simp
    refine Tri.regN (t' := ?t3) (H' := ?H3) TT_ok hC ?e3 ?q3;case e3 =>
     refine go_false ?_;iterate 7 refine evSeq_go rfl (by simp [t5, t0, gq, hee] <;> rfl) (by rfl) (by simp [hw]) ?_
     exact evSeq_nil
    apply sN;refine Tri.condG (o := ?o3) (b := ?b3) ?g3 ?r3 ?y3 ?n3;case g3 => simp [hee] <;> rfl
    case r3 => rfl
    case n3 => intro h; simp at h
    case y3 =>
     intro _;apply sQ;refine Tri.regN (t' := ?t4) (H' := ?H4) TT_ok hC ?e4 ?q4;case e4 =>
      refine go_false ?_;iterate 4 refine evSeq_go rfl (by simp [t2, t3, t4, g0, g1, g2, hvc, hvf, ci, fi, -V.cells, -flat] <;> rfl) (by rfl) (by simp [hw]) ?_
      exact evSeq_nil
     apply sN;apply Tri.ret;apply sR;apply bR;refine inLoop_ret ?_;refine hR _ _ acc v (by simp only [scnF, hk]; rw [if_pos hend]) (by simp [t2]) (by simp [t3]) (by simp [t4]) ?_ ?_ ?_ ?_
     ·simp [gl0, gl1, gl2]
     ·simp [gl0, gl1, gl2]
     ·simp [gl0, gl1, gl2]
     ·rcases hI1.out with h | ⟨nb, h1, h2, h3, h4, h5⟩
      ·exact .inl h
      ·refine .inr ⟨nb, h1, ?_, h3, h4, h5⟩;rw [List.getElem?_set_ne (by omega), List.getElem?_set_ne (by omega), List.getElem?_set_ne (by omega)];exact h2
   ·have hlt : j < s.length := by omega
    have hne : (((j : Nat) : Int) == (s.length : Nat)) = false := tok_ne _ _ hend;refine Tri.regN (t' := ?t5) (H' := ?H5) TT_ok hC ?e5 ?q5;case e5 =>
     refine go_false ?_;iterate 7 refine evSeq_go rfl (by simp [t5, t0, gq, hne] <;> rfl) (by rfl) (by simp [hw]) ?_
     exact evSeq_nil
    apply sN;refine Tri.condG (o := ?o5) (b := ?b5) ?g5 ?r5 ?y5 ?n5;case g5 => simp [hne] <;> rfl
    case r5 => rfl
    case y5 => intro h; simp at h
    case n5 =>
     intro _;apply Tri.skip;apply sN;apply sQ;have hD' : TokD D (s.drop j) ∧ match tokQ kw numQ (s.drop j) with | .inl e => True | .inr (k, t, m) => scnD D s n (j + m) false := by
      have := hD;simp only [scnD, hk] at this;exact this.resolve_left hend
     have htk := htok j l' H1 hI1.sc hlt hI1.kw hI1.ne hD'.1;have hlen := hD'.2;rcases hq : tokQ kw numQ (s.drop j) with e | p
     ·rw [hq] at htk;obtain ⟨H3, htk, hkp, hke⟩ := htk;refine Tri.drawPan TT_ok hC 2 ?v6 ?H6 [false, false, true, true, true, true] (by kernel_rfl) ?e6 ?q6;case e6 =>
       iterate 2 refine QP.val rfl (by simp [t2, t5, g0, htk, ex2] <;> rfl) (by rfl) (by simp [hw]) ?_
       refine QP.stop rfl rfl (by simp [t2, t5, g0, htk, ex2] <;> rfl) (by rfl) (by simp [hw]) ?_;iterate 3 refine QP.skip rfl (by simp [hw]) ?_
       exact QP.nil
      refine inSeq_pan ?_;refine inBlk_pan ?_;refine inLoop_pan ?_;refine hP _ _ j e v (by simp only [scnF, hk, hq]; rw [if_neg hend]) (by simp [forget_get, t2]) (by simp [forget_get, t3]) (by simp [forget_get, t4]) ?_ ?_ ?_
      ·rw [hke 0 (by omega) (by omega)]; exact g0
      ·rw [hke 1 (by omega) (by omega)]; exact g1
      ·rw [hke 2 (by omega) (by omega)]; exact g2
     ·rw [hq] at htk;obtain ⟨H3, htk, hsc3, hkp, hke⟩ := htk;have htk : call 31 [.ptr q 0] H1 = .val (.agg (tkL (p.1, p.2.1, (j : Int), l'))) H3 := htk;have hI3 : SI H3 q m s (j + p.2.2) l' v acc := hI1.keep hsc3 hke;obtain ⟨hp1, hp2⟩ := tokQ_ok hq;rw [List.length_drop] at hp2;obtain ⟨hql3, hml3⟩ := hI3.lt;have b1 := bsTokP (p.1, p.2.1, (j : Int), l') H3;have hI4 : SI (H3 ++ [some { ty := 34, cells := tkL (p.1, p.2.1, (j : Int), l'), kind := .all }]) q m s (j + p.2.2) l' v acc := hI3.keep (by unfold ScB; rw [List.getElem?_append_left hql3]; exact hI3.sc) fun i hi _ => List.getElem?_append_left hi;obtain ⟨v2, H5, b2, hO5, hl5, hk5⟩ := appTokP hI4.out (by omega) (p.1, p.2.1, (j : Int), l') (b := H3.length) (by simp) hI4.lt.1 hI4.lt.2 (by simp; omega);generalize hH4 : H3 ++ [some { ty := 34, cells := tkL (p.1, p.2.1, (j : Int), l'), kind := .all }] = H4 at b1 b2 hI4 hk5 hl5;have g30 := hI3.c0;have g40 := hI4.c0;have g50 : H5[0]? = some (some ⟨23, [v], .all⟩) := by rw [hk5 0 (by omega)]; exact hI4.c0
      have g51 : H5[1]? = some (some ⟨3, [.i .i64 0], .all⟩) := by rw [hk5 1 (by omega)]; exact hI4.c1
      have g52 : H5[2]? = some (some ⟨24, [.i .i64 0], .all⟩) := by rw [hk5 2 (by omega)]; exact hI4.c2
      have g5q : H5[q]? = some (some (scB s (j + p.2.2) l' m)) := by rw [hk5 q (by omega)]; exact hI4.sc
      have g5m : H5[m]? = kwHeap[0]? := by rw [hk5 m (by omega)]; exact hI4.kw
      obtain ⟨hvc2, hvf2⟩ := hO5.cell;refine Tri.regN (t' := ?t7) (H' := ?H7) TT_ok hC ?e7 ?q7;case e7 =>
       refine evReg_draw (t' := ?t7) (H' := ?H7) (ks := [.a, .q, .e, .e, .e, .l]) (fun J => J[0]? = some (some ⟨23, [v], .all⟩)) (by kernel_rfl) g0 ?_ ?r7;refine DR.any rfl (by simp [t2, g0] <;> rfl) (by rfl) (by simp [hw]) (by intro J hJ; simp [hJ, t2] <;> rfl) ?_;refine DR.blind rfl rfl (by simp [t5] <;> rfl) (by rfl) (by simp [hw]) ?_;refine DR.eff rfl rfl (by simp [htk, ex2] <;> rfl) (by rfl) (by simp [hw]) g30 ?_;refine DR.eff rfl rfl (by simp [b1] <;> rfl) (by rfl) (by simp [hw]) g40 ?_;refine DR.eff rfl rfl (by simp [b2] <;> rfl) (by rfl) (by simp [hw]) g50 ?_;refine DR.last (x := ?x7) (v := ?v7) ?h1 ?h2 ?h3 ?h4 ?h5;case h1 => exact rfl
       case h2 => exact rfl
       case h3 => simp [t2, g50, hvc2, hvf2, -V.cells, -flat] <;> rfl
       case h4 => exact rfl
       case h5 => simp [hw]
       case r7 => exact rfl
      apply sN;have hl5q : q < H5.length := Heap.lt g5q;have q0 : ¬ 0 = q := by omega
      refine Tri.regN (t' := ?t8) (H' := ?H8) TT_ok hC ?e8 ?q8;case e8 =>
       refine go_false ?_;iterate 4 refine evSeq_go rfl (by simp [t5, g5q, q0] <;> rfl) (by rfl) (by simp [hw]) ?_
       exact evSeq_nil
      apply bN;refine inLoop_norm ?_;have hI6 : SI ((H5.set 0 (some ⟨23, [v2], .all⟩)).set q (some (scB s (j + p.2.2) false m))) q m s (j + p.2.2) false v2 (acc ++ [(p.1, p.2.1, (j : Int), l')]) := by
       have l0 : 0 < H5.length := Heap.lt g50;refine ⟨?_, ?_, ?_, ?_, ?_, ?_, q3, m3, hI1.ne⟩
       ·rw [List.getElem?_set_ne (by omega), List.getElem?_set_self l0]
       ·rw [List.getElem?_set_ne (by omega), List.getElem?_set_ne (by omega)]; exact g51
       ·rw [List.getElem?_set_ne (by omega), List.getElem?_set_ne (by omega)]; exact g52
       ·unfold ScB; rw [List.getElem?_set_self (by rw [List.length_set]; exact hl5q)]
       ·rw [List.getElem?_set_ne (fun e => hI1.ne e.symm), List.getElem?_set_ne (by omega)]; exact g5m
       ·rcases hO5 with h | ⟨nb, h1, h2, h3, h4, h5⟩
        ·exact .inl h
        ·refine .inr ⟨nb, h1, ?_, h3, h4, h5⟩;rw [List.getElem?_set_ne (fun e => h4 e.symm), List.getElem?_set_ne (by omega)];exact h2
      have hsn : scnF s (n + 1) i l acc = scnF s n (j + p.2.2) false (acc ++ [(p.1, p.2.1, (j : Int), l')]) := by
       simp only [scnF, hk, hq];rw [if_neg hend]
      rw [hq] at hlen;refine ih (j + p.2.2) false v2 (acc ++ [(p.1, p.2.1, (j : Int), l')]) _ _ (by omega) (by omega) (by simp; omega) (by simpa [scB] using hI6) hlen (by simp [hw]) (by simp [t0]) (by simp [t2]) (by simp [t3]) (by simp [t4]) (by simp [t5]) ?_ ?_
      ·intro t' H' toks u k1;exact hR t' H' toks u (hsn.trans k1)
      ·intro t' H' a e u k1;exact hP t' H' a e u (hsn.trans k1)
def scnT (s : List UInt8) : List Tk × Nat × Nat := if 20000 < s.length then ([], 0, 16) else match scnF s (s.length + 1) 0 true [] with
 | .inl l => (l, 0, 0)
 | .inr (a, e) => ([], a, e)
def tkV (l : List Tk) : V := .isl 4 (l.map fun x => .agg (tkL x))
def scnV (p : List Tk × Nat × Nat) : V := .tup [tkV p.1, .i .i64 (p.2.1 : Nat), .i .i64 (p.2.2 : Nat)]
def ScnO (p : List Tk × Nat × Nat) (r : OR) : Prop := ∃ (v : V) (J : Heap) (q m : Nat), r = .val (.tup [v, .i .i64 (p.2.1 : Nat), .i .i64 (p.2.2 : Nat)]) J ∧ OutP J q m v p.1
theorem ScnO_frz {p : List Tk × Nat × Nat} {r : OR} (h : ScnO p r) : ∃ v J k v' u, r = .val v J ∧ fz J k v = some v' ∧ Weak v' u ∧ u = scnV p := by
 obtain ⟨v, J, q, m, rfl, ho⟩ := h;rcases ho with ⟨rfl, hl⟩ | ⟨n, rfl, hn, _⟩
 ·refine ⟨_, J, 5, _, _, rfl, by simp [fz, Ev.fzL] <;> rfl, ?_, rfl⟩;unfold scnV tkV;rw [hl];exact WeakL.tup (WeakL.cons (weak_nils 4) (WeakL.cons (Weak.refl _) (WeakL.cons (Weak.refl _) WeakL.nil)))
 ·obtain ⟨l, a, c⟩ := p;simp only at hn ⊢;have hc : cellsAt J n = some { ty := 34, cells := tkC l, kind := .more } := by simp [cellsAt, hn]
  have hlen := tkC_length l;have hcut : cut (tkC l) (0 * 4) (l.length * 4) = some (tkC l) := by
   simp only [cut];rw [if_pos (by omega), Nat.zero_mul, List.drop_zero, List.take_of_length_le (by omega)]
  have hf := fzL_tk (H := J) l (4 * l.length + 7) (by omega);have hf1 : fz J (4 * l.length + 8) (.sl n 4 0 l.length none) = some (.isl 4 (l.map fun x => V.agg (tkL x))) := by
   simp only [fz, hc, hcut, hf, rowsOf_tk, Option.map_some]
  have e2 : Ev.fzL J (4 * l.length + 8) [V.i .i64 (a : Nat), V.i .i64 (c : Nat)] = some [V.i .i64 (a : Nat), V.i .i64 (c : Nat)] := by simp [Ev.fzL, fz]
  have e1 : Ev.fzL J (4 * l.length + 9) (V.sl n 4 0 l.length none :: [V.i .i64 (a : Nat), V.i .i64 (c : Nat)]) = some (V.isl 4 (l.map fun x => V.agg (tkL x)) :: [V.i .i64 (a : Nat), V.i .i64 (c : Nat)]) := by
   rw [Ev.fzL, hf1, e2]
  refine ⟨_, J, 4 * l.length + 10, scnV (l, a, c), scnV (l, a, c), rfl, ?_, Weak.refl _, rfl⟩;rw [fz, e1];rfl
theorem body_2011 {call : CallF} (hC : call.Sound Tryz.prog TT) (D : List UInt8 → Prop) (s : List UInt8)
 (hkw : call 29 [] scH0 = .val (.mp 3) (scH0 ++ kwHeap))
 (hskip : ∀ (q m : Nat) (i : Nat) (l : Bool) (H : Heap), ScB H q s i l m → i ≤ s.length → s.length ≤ 20000 → skR H q s m (skQ s i l) (call 30 [.ptr q 0] H))
 (htok : ∀ (q m : Nat) (i : Nat) (l : Bool) (H : Heap), ScB H q s i l m → i < s.length → s.length ≤ 20000 → H[m]? = kwHeap[0]? → m ≠ q → TokD D (s.drop i) → tokS H q s i l m (tokQ kw numQ (s.drop i)) (call 31 [.ptr q 0] H))
 (hD : s.length ≤ 20000 → scnD D s (s.length + 1) 0 true) : DBody Tryz.prog TT 11 [.s s] [] (ScnO (scnT s)) := by
 refine ⟨Tryz.f11, _, rfl, rfl, by simp [Tryz.f11], ?_⟩;have h0 : (Tm.init Tryz.f11.ntmps [.s s]).get 0 = .s s := by rw [get_init]; rfl
 have hw : (Tm.init Tryz.f11.ntmps [.s s]).wid = 32 := rfl;generalize Tm.init Tryz.f11.ntmps [.s s] = t at *;refine TriD.seq (TriD.lift ?_);refine Tri.regN (t' := ?t1) (H' := ?H1) TT_ok hC ?e1 ?q1;case e1 =>
  refine go_false ?_;iterate 3 refine evSeq_go rfl (by simp <;> rfl) (by rfl) (by simp [hw]) ?_
  exact evSeq_nil
 refine TriD.seq (TriD.lift ?_);by_cases hl : (s.length : Int) ≤ 20000
 ·have hl' : s.length ≤ 20000 := by omega
  have hgt : ¬ (20000 : Int) < s.length := by omega
  apply sQ;refine Tri.regN (t' := ?t2) (H' := ?H2) TT_ok hC ?e2 ?q2;case e2 =>
   refine go_false ?_;iterate 3 refine evSeq_go rfl (by simp [h0, hgt, hl] <;> rfl) (by rfl) (by simp [hw]) ?_
   exact evSeq_nil
  apply sN;refine Tri.condG (o := ?o2) (b := ?b2) ?g2 ?r2 ?y2 ?n2;case g2 => simp <;> rfl
  case r2 => rfl
  case y2 => intro h; simp at h
  case n2 =>
   intro _;apply Tri.skip;refine TriD.seq ?_;refine TriD.reg (f := 28) (caps := [.ptr 0 0, .ptr 1 0, .ptr 2 0]) (vs := []) (xv := ?xv) (yv := ?yv) (t1 := ?t3) (t2 := ?t4) (H1 := ?H3) (H2 := ?H4) TT_ok hC 1 rfl rfl rfl ?e3 ?x3 ?xx ?y3 ?yy ?f3 ?e4 ?q3;case e3 =>
    refine oA ?_;exact evSeq_nil
   case x3 => simp <;> rfl
   case xx => rfl
   case y3 => rfl
   case yy => rfl
   case f3 => simp [hw]
   case e4 => exact evSeq_nil
   refine TriD.seq (TriD.lift ?_);have ex : TT.ext 29 = none := rfl;have hkw' : call 29 [] [some ⟨23, [.nils], .all⟩, some ⟨3, [.i .i64 0], .all⟩, some ⟨24, [.i .i64 0], .all⟩] = .val (.mp 3) (scH0 ++ kwHeap) := hkw;refine Tri.regN (t' := ?t5) (H' := ?H5) TT_ok hC ?e5 ?q5;case e5 =>
    refine go_false ?_;iterate 5 refine evSeq_go rfl (by simp [h0, hkw', ex] <;> rfl) (by rfl) (by simp [hw]) ?_
    exact evSeq_nil
   refine TriD.lift ?_;apply bK;refine Tri.loop ?_;have hI : SI (scH0 ++ kwHeap ++ [some (scB s 0 true 3)]) (scH0 ++ kwHeap).length 3 s 0 true .nils [] := by
    refine ⟨rfl, rfl, rfl, ?_, rfl, .inl ⟨rfl, rfl⟩, by simp [scH0], by omega, by simp [scH0, kwHeap]⟩;unfold ScB;simp
   refine loop_scn hC D s hl' _ 3 (fun i l H h1 h2 => hskip _ 3 i l H h1 h2 hl') (fun i l H h1 h2 h3 h4 h5 => htok _ 3 i l H h1 h2 hl' h3 h4 h5) (s.length + 1) 0 true .nils [] _ _ (by omega) (by omega) (by simp) hI (hD hl') (by simp [hw]) (by simp [h0]) (by simp) (by simp) (by simp) (by simp [scH0, kwHeap]) ?_ ?_
   ·intro t' H' toks v hsc f2 f3 f4 g0 g1 g2 hO;apply bR;have hT : scnT s = (toks, 0, 0) := by unfold scnT; rw [if_neg (by omega), hsc]
    refine ⟨H', _, ⟨H', closes_ret _ rfl H', rfl⟩, ?_, v, H', _, _, rfl, by rw [hT]; exact hO⟩;rw [hT];simp [Tryz.f11, f2, f3, f4, g0, g1, g2]
   ·intro t' H' a e v hsc f2 f3 f4 g0 g1 g2;refine inBlk_pan ?_;have hT : scnT s = ([], a, e) := by unfold scnT; rw [if_neg (by omega), hsc]
    have hl2 : 2 < H'.length := Heap.lt g2;refine ⟨rfl, cloH H' e a, _, closes_pan e a g0 g1 g2, ?_, .nils, cloH H' e a, 0, 0, rfl, by rw [hT]; exact .inl ⟨rfl, rfl⟩⟩;rw [hT];have k0 : (cloH H' e a)[0]? = some (some ⟨23, [.nils], .all⟩) := by
     unfold cloH;rw [List.getElem?_set_ne (by omega), List.getElem?_set_ne (by omega), List.getElem?_set_self (by simp)]
    have k1 : (cloH H' e a)[1]? = some (some ⟨3, [.i .i64 (a : Nat)], .all⟩) := by
     unfold cloH;rw [List.getElem?_set_ne (by omega), List.getElem?_set_self (by simp; omega)]
    have k2 : (cloH H' e a)[2]? = some (some ⟨24, [.i .i64 (e : Nat)], .all⟩) := by
     unfold cloH;rw [List.getElem?_set_self (by simp; omega)]
    simp [Tryz.f11, f2, f3, f4, k0, k1, k2]
 ·have hgt : (20000 : Int) < s.length := by omega
  have hT : scnT s = ([], 0, 16) := by unfold scnT; rw [if_pos (by omega)]
  apply sQ;refine Tri.regN (t' := ?t6) (H' := ?H6) TT_ok hC ?e6 ?q6;case e6 =>
   refine go_false ?_;iterate 3 refine evSeq_go rfl (by simp [h0, hgt] <;> rfl) (by rfl) (by simp [hw]) ?_
   exact evSeq_nil
  apply sN;refine Tri.condG (o := ?o6) (b := ?b6) ?g6 ?r6 ?y6 ?n6;case g6 => simp <;> rfl
  case r6 => rfl
  case n6 => intro h; simp at h
  case y6 =>
   intro _;apply sQ;refine Tri.regN (t' := ?t7) (H' := ?H7) TT_ok hC ?e7 ?q7;case e7 =>
    refine go_false ?_;iterate 3 refine evSeq_go rfl (by simp <;> rfl) (by rfl) (by simp [hw]) ?_
    exact evSeq_nil
   apply sN;apply Tri.ret;refine ⟨_, _, rfl, ?_, .nils, _, 0, 0, rfl, by rw [hT]; exact .inl ⟨rfl, rfl⟩⟩;rw [hT];simp [Tryz.f11]
theorem spec_xfrz {P : Program} {T : Tab} (hT : TOk P T) (hp : T.Plain) (F : FuncId) {α : Type} (enc : α → List V) (D : α → Prop) (r : α → V) (hnl : ∀ a, D a → nlL (enc a) = true) (inj : ∀ a b, D a → D b → enc a = enc b → r a = r b)
 (h : ∀ a, D a → XFact P T F (enc a) [] fun x => ∃ v J k v' u, x = .val v J ∧ fz J k v = some v' ∧ Weak v' u ∧ u = r a) : ∃ g, SpecOK P T F g ∧ ∀ a, D a → ∀ H, g (enc a) H = .val (r a) H := by
 obtain ⟨g0, k0, s0⟩ := XFact.spec (F := F) hT (D := fun vs H => H = [] ∧ ∃ a, D a ∧ vs = enc a) (R := fun vs _ x => ∃ a, D a ∧ vs = enc a ∧ ∃ v J k v' u, x = .val v J ∧ fz J k v = some v' ∧ Weak v' u ∧ u = r a) (by
  rintro vs H ⟨rfl, a, ha, rfl⟩;exact (h a ha).mono fun x hx => ⟨a, ha, rfl, hx⟩)
 obtain ⟨g, k, s⟩ := spec_frzw hp k0 (fun vs => ∃ a, D a ∧ vs = enc a) (fun vs u => ∃ a, D a ∧ vs = enc a ∧ u = r a) (by
  rintro vs ⟨a, ha, rfl⟩;refine ⟨hnl a ha, ?_⟩;obtain ⟨x, ⟨b, hb, he, v, J, n, v', u, rfl, h1, h2, h3⟩, h4⟩ := s0 (enc a) [] ⟨rfl, a, ha, rfl⟩;exact ⟨v, J, n, v', u, h4, h1, h2, b, hb, he, h3⟩)
 refine ⟨g, k, fun a ha H => ?_⟩;obtain ⟨u, ⟨b, hb, he, rfl⟩, h2⟩ := s (enc a) ⟨a, ha, rfl⟩;rw [h2 H, inj a b ha hb he]
theorem sp2011_of (D : List UInt8 → Prop) (hf : ∀ s at_, D s → s.length < 1100000 → FltH s at_) : ∃ g, SpecOK Tryz.prog TT 11 g ∧ ∀ s : List UInt8, (s.length ≤ 20000 → scnD D s (s.length + 1) 0 true) → ∀ H, g [.s s] H = .val (scnV (scnT s)) H := by
 obtain ⟨g1, k1, s1⟩ := sp2030;obtain ⟨g2, k2, s2⟩ := sp2031_of D hf;have hC := ws (ws (ws n0 k1) k2) ok72s;have c1 : ∀ (q m : Nat) (s : List UInt8) (i : Nat) (l : Bool) (H : Heap), ScB H q s i l m → i ≤ s.length → s.length ≤ 20000 → skR H q s m (skQ s i l) ((((CallF.none.with 30 g1).with 31 g2).with 29 spKwS) 30 [.ptr q 0] H) := fun q m s i l H h1 h2 h3 => by
  rw [w_other _ _ _ _ rfl, w_other _ _ _ _ rfl, w_here];exact s1 (q, s, i, l, m) H ⟨h1, h2, by simp only; omega⟩
 have c2 : ∀ (q m : Nat) (s : List UInt8) (i : Nat) (l : Bool) (H : Heap), ScB H q s i l m → i < s.length → s.length ≤ 20000 → H[m]? = kwHeap[0]? → m ≠ q → TokD D (s.drop i) → tokS H q s i l m (tokQ kw numQ (s.drop i)) ((((CallF.none.with 30 g1).with 31 g2).with 29 spKwS) 31 [.ptr q 0] H) := fun q m s i l H h1 h2 h3 h4 h5 h6 => by
  rw [w_other _ _ _ _ rfl, w_here];exact s2 q s i l m H h1 h2 (by omega) h4 h5 h6
 have c3 : (((CallF.none.with 30 g1).with 31 g2).with 29 spKwS) 29 [] scH0 = .val (.mp 3) (scH0 ++ kwHeap) := by
  rw [w_here];simp [spKwS, Heap.beq_refl]
 generalize ((CallF.none.with 30 g1).with 31 g2).with 29 spKwS = call at hC c1 c2 c3;exact spec_xfrz TT_ok TT_plain 11 (fun s => [.s s]) (fun s : List UInt8 => s.length ≤ 20000 → scnD D s (s.length + 1) 0 true) (fun s => scnV (scnT s)) (fun _ _ => rfl) (fun a b _ _ h => by simp only [List.cons.injEq, V.s.injEq, and_true] at h; rw [h])
  fun s hs => (DBody.fact TT_ok (body_2011 hC D s c3 (fun q m i l H h1 h2 h3 => c1 q m s i l H h1 h2 h3) (fun q m i l H h1 h2 h3 h4 h5 h6 => c2 q m s i l H h1 h2 h3 h4 h5 h6) hs)).mono fun r hr => ScnO_frz hr
def aw1 : List UInt8 := [108, 101, 116, 32, 120, 39, 32, 61, 32, 48, 120, 70, 70, 32, 47, 47, 32, 97]
def aw2 : List UInt8 := [49, 46, 101, 32, 97, 46, 62, 98, 32, 34, 97, 92, 120, 52, 49, 34]
theorem aw1_scn : scnT aw1 = ([(2, [108, 101, 116], 0, true), (1, [120, 39], 4, false), (6, [61], 7, false), (3, [50, 53, 53], 9, false)], 0, 0) := by kernel_rfl
theorem aw2_scn : scnT aw2 = ([(3, [49], 0, true), (6, [46], 1, false), (1, [101], 2, false), (1, [97], 4, false), (6, [46, 62], 5, false), (1, [98], 7, false), (5, [97, 65], 9, false)], 0, 0) := by kernel_rfl
section
variable (u v : List UInt8)
end
def NoF (x : List UInt8) : Prop := ∀ m, decF x ≠ some (m, true)
def awC : Con := fun f vs => if f = 11 then (match vs with
 | [.s s] => if s = aw1 then some (.val (scnV ([(2, [108, 101, 116], 0, true), (1, [120, 39], 4, false), (6, [61], 7, false), (3, [50, 53, 53], 9, false)], 0, 0))) else if s = aw2 then some (.val (scnV ([(3, [49], 0, true), (6, [46], 1, false), (1, [101], 2, false), (1, [97], 4, false), (6, [46, 62], 5, false), (1, [98], 7, false), (5, [97, 65], 9, false)], 0, 0))) else none
 | _ => none) else none
theorem awake_t : (match evFun TT (gamOf awC) 3000 10 [] [] with | .val (.b true) _ => true | _ => false) = true := by kernel_rfl
def noF (x : List UInt8) : Bool := match decF x with
 | some (_, true) => false
 | _ => true
theorem noF_iff {x : List UInt8} (h : noF x = true) : NoF x := fun m e => by
 unfold noF at h;rw [e] at h;cases h
def scnDb (s : List UInt8) : Nat → Nat → Bool → Bool
 | 0, _, _ => true
 | n + 1, i, l => match skQ s i l with
  | .inl a => true
  | .inr (j, l') => if j = s.length then true else if (noF (s.drop j) || !(decide (48 ≤ atS (s.drop j) 0) && decide (atS (s.drop j) 0 ≤ 57))) = true then (match tokQ kw numQ (s.drop j) with
   | .inl e => true
   | .inr (k, t, m) => scnDb s n (j + m) false) else false
theorem scnDb_ok (s : List UInt8) : ∀ (n i : Nat) (l : Bool), scnDb s n i l = true → scnD NoF s n i l
 | 0, _, _, _ => trivial
 | n + 1, i, l, h => by
  unfold scnDb at h;unfold scnD;split
  ·trivial
  ·rename_i j l' e;rw [e] at h;simp only at h;split at h
   ·exact .inl ‹_›
   ·split at h
    ·rename_i h1;refine .inr ⟨fun hd => ?_, ?_⟩
     ·rw [hd] at h1;exact noF_iff (by simpa using h1)
     ·split
      ·trivial
      ·rename_i k t m e2;rw [e2] at h;exact scnDb_ok s n _ _ h
    ·cases h
theorem aw1_D : scnD NoF aw1 (aw1.length + 1) 0 true := scnDb_ok _ _ _ _ (by kernel_rfl)
theorem aw2_D : scnD NoF aw2 (aw2.length + 1) 0 true := scnDb_ok _ _ _ _ (by kernel_rfl)
theorem sp2011n : ∃ g, SpecOK Tryz.prog TT 11 g ∧ ∀ s : List UInt8, (s.length ≤ 20000 → scnD NoF s (s.length + 1) 0 true) → ∀ H, g [.s s] H = .val (scnV (scnT s)) H :=
 sp2011_of NoF fun s at_ h _ m t he => absurd he (h m)
theorem sp2010 : ∃ g, SpecOK Tryz.prog TT 10 g ∧ ∀ H, g [] H = .val (.b true) H := by
 obtain ⟨g1, k1, s1⟩ := sp2011n;have hC : awC.Sound Tryz.prog TT := by
  intro f vs H r h hne;simp only [gamOf, awC] at h;split at h
  ·rename_i hf;subst hf;split at h
   ·rename_i s;split at h
    ·rename_i e;subst e;refine k1 _ H r ?_ hne;rw [s1 aw1 (fun _ => aw1_D) H, aw1_scn];exact Option.some.inj h
    ·split at h
     ·rename_i e;subst e;refine k1 _ H r ?_ hne;rw [s1 aw2 (fun _ => aw2_D) H, aw2_scn];exact Option.some.inj h
     ·cases h
   ·cases h
  ·cases h
 refine ⟨fun vs H => match vs with | [] => .val (.b true) H | _ => .no, fun vs H x hx hne => ?_, fun H => rfl⟩;simp only at hx;split at hx
 ·subst hx;have h := awake_t;split at h
  ·rename_i J he;obtain ⟨h1, h2⟩ := con_of_ev TT_ok TT_plain hC (r := .val (.b true)) he rfl rfl;exact ⟨h1, h2 H⟩
  ·cases h
 ·exact absurd hx.symm hne
open Go.Lib (VarReads LaidVars_reads acceptData firstData)
def memOf (W : World) : Mem := fun b => W.heap[b]?
theorem relL_of_at {M : Mem} {ρ : Ren} : ∀ (l : List V) (cs : List Value), cs.length = l.length → (∀ (i : Nat) v x, l[i]? = some v → cs[i]? = some x → rel M ρ v x) → relL M ρ l cs
 | [], [], _, _ => by simp only [relL]
 | [], _ :: _, h, _ => by simp at h
 | _ :: _, [], h, _ => by simp at h
 | v :: l, x :: cs, h, k => relL_cons (k 0 v x rfl rfl) (relL_of_at l cs (by simpa using h) fun i v' x' h1 h2 => k (i + 1) v' x' (by simpa using h1) (by simpa using h2))
theorem glob_of {W : World} {name : String} {g : Nat} {cs : Array Value} {l : List V} (hg : Tryz.prog.globalNamed name = some g) (hv : W.var? Tryz.prog name = some cs) (hl : cs.size = l.length)
 (h : ∀ (i : Nat) v, l[i]? = some v → ∃ x, W.cell? ⟨g, i, none⟩ = some x ∧ rel (memOf W) [] v x) :
 ∃ (cs' : List Value) (ty : TypeId) (fr : Nat × Nat), memOf W g = some (.cells cs'.toArray ty fr) ∧ relL (memOf W) [] l cs' := by
 unfold World.var? at hv;rw [hg] at hv;simp only [Option.bind_some] at hv;split at hv
 ·rename_i c ty fr hb;cases hv;refine ⟨cs.toList, ty, fr, by simpa [memOf] using hb, relL_of_at _ _ (by simpa using hl) fun i v x h1 h2 => ?_⟩;obtain ⟨y, hy, hr⟩ := h i v h1;have : W.cell? ⟨g, i, none⟩ = cs[i]? := by simp [World.cell?, hb]
  rw [this] at hy;rw [Array.getElem?_toList] at h2;rw [h2] at hy;cases hy;exact hr
 ·cases hv
theorem u8x : U8Extra Tryz.prog Tryz.lays196_ren where
 n3 := by kernel_rfl
 n4 := by kernel_rfl
 y3 := by kernel_rfl
 y4 := by kernel_rfl
 c5 := by kernel_rfl
 c119 := by kernel_rfl
 c138 := by kernel_rfl
theorem var_size {W : World} {name : String} {d : DataW Unit} {g : Nat} {t e : TypeId} {n k : Nat} (hg : Tryz.prog.globalNamed name = some g) (ht : (Tryz.prog.globals[g]?).map (·.type) = some t) (hu : Tryz.prog.underlying t = some (.array n e)) (hc : Tryz.prog.cellsOf t = k) (h : VarReads Tryz.prog W name d) :
 ∃ cs, W.var? Tryz.prog name = some cs ∧ cs.size = k := by
 obtain ⟨g', t', cs, fuel, p, hg', ht', hv, hd⟩ := h;obtain rfl := Option.some.inj (hg.symm.trans hg');obtain rfl := Option.some.inj (ht.symm.trans ht');refine ⟨cs, hv, ?_⟩;cases fuel with
 | zero => simp [DataW.trod] at hd
 | succ fuel =>
  simp only [DataW.trod, hu, hc] at hd;split at hd
  ·rename_i hl; simpa using hl
  ·cases hd
theorem acc_at : ∀ j, j < 16 → ((((List.range 16).map fun i => [V.i .u8 (Lib.accLo i), V.i .u8 (Lib.accHi i)]).flatten)[2 * j]? = some (V.i .u8 (Lib.accLo j)) ∧ (((List.range 16).map fun i => [V.i .u8 (Lib.accLo i), V.i .u8 (Lib.accHi i)]).flatten)[2 * j + 1]? = some (V.i .u8 (Lib.accHi j))) := by
 intro j hj;have : j = 0 ∨ j = 1 ∨ j = 2 ∨ j = 3 ∨ j = 4 ∨ j = 5 ∨ j = 6 ∨ j = 7 ∨ j = 8 ∨ j = 9 ∨ j = 10 ∨ j = 11 ∨ j = 12 ∨ j = 13 ∨ j = 14 ∨ j = 15 := by omega
 rcases this with rfl | rfl | rfl | rfl | rfl | rfl | rfl | rfl | rfl | rfl | rfl | rfl | rfl | rfl | rfl | rfl <;> exact ⟨rfl, rfl⟩
theorem sr_of_laid {W : World} (h : laidMetH Tryz.prog Go.Proofs.YtmjplflnlggbeaaGreatDoor.Rows.tokenStringsUptoRow.laid W) (hsh : W.ShapedOpen Tryz.prog) : SR TT (memOf W) [] [] W := by
  rw [MakeChecks.laidMetH_plain _ _ _ (by kernel_rfl)] at h
  obtain ⟨ps, hv, _, _⟩ := h
  have hr := LaidVars_reads hv
  have hP : VarReads Tryz.prog W "internal/strconv.uint64pow10" (Lib.tabData .u64 Lib.pow10Tab) := hr _ _ (.tail _ (.tail _ (.head _)))
  have hA : VarReads Tryz.prog W "unicode/utf8.acceptRanges" acceptData := hr _ _ (.tail _ (.tail _ (.tail _ (.head _))))
  have hS : VarReads Tryz.prog W "strings.asciiSpace" (Lib.tabData .u8 ((List.range 256).map fun i => if i = 32 ∨ (9 ≤ i ∧ i ≤ 13) then 1 else 0)) := hr _ _ (.tail _ (.tail _ (.tail _ (.tail _ (.tail _ (.head _))))))
  have hG : VarReads Tryz.prog W "hackamore/token.signs" (.agg (sgnL.map fun s => .lit (.string s))) := hr _ _ (.tail _ (.tail _ (.tail _ (.tail _ (.tail _ (.tail _ (.head _)))))))
  have hF : VarReads Tryz.prog W "unicode/utf8.first" firstData := hr _ _ (.tail _ (.tail _ (.tail _ (.tail _ (.tail _ (.tail _ (.tail _ (.head _))))))))
  have tabs : Lib.Utf8Tabs 1 2 W := utf8Tabs_of_readsT (U8Types.of196 Tryz.lays196) u8x hF hA
  refine ⟨fun b o hb => hb, rfl, fun n b hn => by simp at hn, fun n m x y b c c' hn => by simp at hn, fun g l hl => ?_, fun g hg => ?_⟩
  · simp only [TT] at hl
    split at hl
    · rename_i hg
      subst hg
      cases hl
      have hG' := hG
      obtain ⟨cs, hv, hsz⟩ := var_size (g := 0) (t := 77) (by kernel_rfl) (by kernel_rfl) Tryz.underlying77 (k := 43) (by kernel_rfl) hG
      obtain ⟨g', t', cs2, fuel, p, hg', ht', hv2, hd⟩ := hG'
      have e0 : Tryz.prog.globalNamed "hackamore/token.signs" = some 0 := by kernel_rfl
      obtain rfl := Option.some.inj (e0.symm.trans hg')
      obtain rfl := Option.some.inj ((show (Tryz.prog.globals[0]?).map (·.type) = some 77 by kernel_rfl).symm.trans ht')
      rw [hv] at hv2
      cases hv2
      have c9 : Tryz.prog.cellsOf 9 = 1 := by kernel_rfl
      refine glob_of e0 hv (by rw [hsz]; rfl) fun i v hi => ?_
      have hi43 : i < 43 := (List.getElem?_eq_some_iff.1 hi).1
      obtain ⟨fuel', d, q, hdi, he⟩ := Lib.array_elem Tryz.underlying77 hd i hi43
      rw [c9, Nat.mul_one] at he
      obtain ⟨s, e1, e2, _⟩ := DataW.trod_string Tryz.underlying9 he
      simp only [List.getElem?_map, Option.map_eq_some_iff] at hi hdi
      obtain ⟨x, hx, rfl⟩ := hi
      obtain ⟨y, hy, rfl⟩ := hdi
      rw [hx] at hy
      cases hy
      have hs : s = ⟨x.toArray⟩ := by
        simp only [Prod.mk.injEq, DataW.lit.injEq] at e2
        have h1 := e2.1
        simp only [Lit.string.injEq] at h1
        cases s
        simp only at h1
        rw [h1]
      refine ⟨.string s, ?_, by rw [hs]; simp only [rel]⟩
      rw [World.var?_cell e0 hv i, ← Array.getElem?_toList]
      have : (cs.toList.drop i)[0]? = some (.string s) := by
        have h2 := congrArg (fun l : List Value => l[0]?) e1
        simpa using h2
      simpa using this
    · split at hl
      · rename_i hg
        subst hg
        cases hl
        have hS' := hS
        obtain ⟨cs, hv, hsz⟩ := var_size (g := 3) (t := 99) (by kernel_rfl) (by kernel_rfl) Tryz.underlying99 (k := 256) (by kernel_rfl) hS
        obtain ⟨g', t', cs2, fuel, p, hg', ht', hv2, hd⟩ := hS'
        have e0 : Tryz.prog.globalNamed "strings.asciiSpace" = some 3 := by kernel_rfl
        obtain rfl := Option.some.inj (e0.symm.trans hg')
        obtain rfl := Option.some.inj ((show (Tryz.prog.globals[3]?).map (·.type) = some 99 by kernel_rfl).symm.trans ht')
        have hcs := Lib.cells_of_tab Tryz.underlying99 Tryz.underlying5 (by kernel_rfl) (by kernel_rfl) hd
        refine glob_of e0 hv (by simp [hsz]) fun i v hi => ?_
        rw [hv] at hv2
        cases hv2
        have hi256 : i < 256 := by
          have := (List.getElem?_eq_some_iff.1 hi).1
          simpa using this
        simp only [List.getElem?_map, List.getElem?_range hi256, Option.map_some, Option.some.injEq] at hi
        subst hi
        refine ⟨.int .u8 (if i = 32 ∨ (9 ≤ i ∧ i ≤ 13) then 1 else 0), ?_, by simp only [rel]⟩
        rw [World.var?_cell e0 hv i, ← Array.getElem?_toList, hcs]
        simp [List.getElem?_range hi256]
      · split at hl
        · rename_i hg
          subst hg
          cases hl
          obtain ⟨cs, hv, hsz⟩ := var_size (g := 1) (t := 99) (by kernel_rfl) (by kernel_rfl) Tryz.underlying99 (k := 256) (by kernel_rfl) hF
          refine glob_of (by kernel_rfl) hv (by simp [hsz]) fun i v hi => ?_
          have hi256 : i < 256 := by
            have := (List.getElem?_eq_some_iff.1 hi).1
            simpa using this
          simp only [List.getElem?_map, List.getElem?_range hi256, Option.map_some, Option.some.injEq] at hi
          subst hi
          exact ⟨_, tabs.1 i hi256, by simp only [rel]⟩
        · split at hl
          · rename_i hg
            subst hg
            cases hl
            obtain ⟨cs, hv, hsz⟩ := var_size (g := 2) (t := 102) (by kernel_rfl) (by kernel_rfl) Tryz.underlying102 (k := 32) (by kernel_rfl) hA
            refine glob_of (by kernel_rfl) hv (by rw [hsz]; rfl) fun i v hi => ?_
            have hi32 : i < 32 := by
              have := (List.getElem?_eq_some_iff.1 hi).1
              exact this
            obtain ⟨j, hj, hij⟩ : ∃ j, j < 16 ∧ (i = 2 * j ∨ i = 2 * j + 1) := ⟨i / 2, by omega, by omega⟩
            obtain ⟨k1, k2⟩ := acc_at j hj
            rcases hij with rfl | rfl
            · rw [k1] at hi; cases hi
              exact ⟨_, (tabs.2 j hj).1, by simp only [rel]⟩
            · rw [k2] at hi; cases hi
              exact ⟨_, (tabs.2 j hj).2, by simp only [rel]⟩
          · split at hl
            · rename_i hg
              subst hg
              cases hl
              have hP' := hP
              obtain ⟨cs, hv, hsz⟩ := var_size (g := 8) (t := 196) (by kernel_rfl) (by kernel_rfl) Tryz.underlying196 (k := 20) (by kernel_rfl) hP
              obtain ⟨g', t', cs2, fuel, p, hg', ht', hv2, hd⟩ := hP'
              have e0 : Tryz.prog.globalNamed "internal/strconv.uint64pow10" = some 8 := by kernel_rfl
              obtain rfl := Option.some.inj (e0.symm.trans hg')
              obtain rfl := Option.some.inj ((show (Tryz.prog.globals[8]?).map (·.type) = some 196 by kernel_rfl).symm.trans ht')
              have hcs := Lib.cells_of_tab Tryz.underlying196 Tryz.underlying119 (by kernel_rfl) (by kernel_rfl) hd
              refine glob_of e0 hv (by simp [hsz]) fun i v hi => ?_
              rw [hv] at hv2
              cases hv2
              have hi20 : i < 20 := by
                have := (List.getElem?_eq_some_iff.1 hi).1
                simpa using this
              simp only [List.getElem?_map, List.getElem?_range hi20, Option.map_some, Option.some.injEq] at hi
              subst hi
              refine ⟨.int .u64 ((10 ^ i : Nat) : Int), ?_, by simp only [rel]⟩
              rw [World.var?_cell e0 hv i, ← Array.getElem?_toList, hcs]
              simp [Lib.pow10Tab, List.getElem?_range hi20]
            · cases hl
  · have hg4 : g = 4 := by simpa [TT] using hg
    subst hg4
    obtain ⟨m, hm⟩ := cell_of_shapedOpen_int (P := Tryz.prog) (w := W) (k := .i64) (g := 4) (t := 3) (zero := #[.int .i64 0]) hsh (of_decide_eq_true (by kernel_rfl)) (by kernel_rfl) rfl (by kernel_rfl) (by kernel_rfl) Tryz.underlying3
    obtain ⟨cs, hh, hs, hr⟩ := hsh.1 4 #[.int .i64 0] 3 (of_decide_eq_true (by kernel_rfl)) (by kernel_rfl)
    have hc : cs[0]? = some (.int .i64 m) := by simpa [World.cell?, hh] using hm
    refine ⟨m, 3, (0, 0), ?_⟩
    show W.heap[4]? = _
    rw [hh]
    have e : cs = #[.int .i64 m] := by
      apply Array.ext (by simpa using hs)
      intro i h1 h2
      have hi : i = 0 := by simp at h2; exact h2
      subst hi
      simpa [Array.getElem?_eq_getElem h1] using hc
    rw [e]
/-! The program's numbers are those of the reference. -/
theorem atR_sh (s : List UInt8) (i j : Nat) : atR s (i + j) = atR (s.drop i) j := by unfold atR; rw [List.getElem?_drop]
theorem begR_sh (s : List UInt8) (i j : Nat) (t : List UInt8) (h : i ≤ s.length) : begR s (i + j) t = begR (s.drop i) j t := by
 unfold begR;rw [List.length_drop, List.take_drop, List.drop_drop];have e1 : decide (i + j + t.length ≤ s.length) = decide (j + t.length ≤ s.length - i) := by
  rw [decide_eq_decide]; omega
 rw [e1, Nat.add_assoc]
theorem begR_pre (s : List UInt8) (i : Nat) (t : List UInt8) (h : i ≤ s.length) : begR s i t = preR (s.drop i) t := by
 rw [preR_begR, ← begR_sh s i 0 t h, Nat.add_zero]
theorem atS_R (s : List UInt8) (n : Nat) : atS s (n : Nat) = atR s n := rfl
theorem atR_nil (j : Nat) : atR [] j = 0 := by simp [atR]
theorem atR_zero (c : UInt8) (r : List UInt8) : atR (c :: r) 0 = c.toNat := by simp [atR]
theorem atR_succ (c : UInt8) (r : List UInt8) (j : Nat) : atR (c :: r) (j + 1) = atR r j := by simp [atR]
theorem atR_out' {s : List UInt8} {i : Nat} (h : s.length ≤ i) : atR s i = 0 := by simp [atR, List.getElem?_eq_none h]
theorem endQ_eq {L : List UInt8} {n : Nat} (h : n ≤ L.length) : endQ L n = !(worR (atR L n)) := by
 unfold endQ;rw [atS_R];by_cases e : n = L.length
 ·rw [atR_out' (by omega)];simp [e];decide
 ·simp [e]
theorem dig10_iff (c : Int) : 0 ≤ digR c 10 ↔ 48 ≤ c ∧ c ≤ 57 := by
 unfold digR digN;repeat' split
 all_goals omega
theorem fr_iff (L : List UInt8) (n : Nat) : (((atR L n == 46) && decide (0 ≤ digR (atR L (n + 1)) 10)) = true) ↔ (n + 1 < L.length ∧ atS L n = 46 ∧ (decide (48 ≤ atS L (n + 1 : Nat)) && decide (atS L (n + 1 : Nat) ≤ 57)) = true) := by
 rw [atS_R, atS_R];simp only [Bool.and_eq_true, beq_iff_eq, decide_eq_true_eq, dig10_iff];constructor
 ·rintro ⟨h1, h2, h3⟩;exact ⟨atR_in (by omega), h1, h2, h3⟩
 ·rintro ⟨_, h1, h2, h3⟩;exact ⟨h1, h2, h3⟩
/-! Escapes, strings and characters of the program are those of the reference. -/
/-! Blanks, comments and tokens of the program are those of the reference. -/
theorem has_nl (x : List UInt8) : Lib.contains x [10] = x.contains 10 := by
 unfold Lib.contains;rw [Lib.index_one, Lib.contains_iff_indexByte]
theorem ln_idx : ∀ L : List UInt8, (if Lib.indexByte L 10 < 0 then L.length else (Lib.indexByte L 10).toNat) = lnL L
 | [] => rfl
 | b :: L => by
  have ih := ln_idx L;have hge := Lib.indexByte_ge L 10;unfold Lib.indexByte lnL;by_cases hb : (b == 10) = true
  ·rw [if_pos hb, if_pos hb]; rfl
  ·rw [if_neg hb, if_neg hb, ← ih];by_cases h : Lib.indexByte L 10 = -1
   ·rw [h]; rfl
   ·have h1 : ¬ (Lib.indexByte L 10 == -1) = true := by rw [beq_iff_eq]; exact h
    rw [if_neg h1, if_neg (by omega), if_neg (by omega)];omega
theorem two_cut {s : List UInt8} {i : Nat} {a b : UInt8} (h : preR (s.drop i) [a, b] = true) : (s.take (i + 2)).drop i = [a, b] ∧ i + 2 ≤ s.length := by
 have hl := preR_len h;rw [List.length_drop] at hl;simp only [List.length_cons, List.length_nil] at hl;simp only [preR, Bool.and_eq_true, beq_iff_eq] at h;rw [List.drop_take, show i + 2 - i = 2 from by omega];exact ⟨h.2, by omega⟩
theorem tok_err {x : List UInt8} {e : Nat} (h : tokQ kw numQ x = .inl e) : e ≠ 0 := by
 unfold tokQ at h;split at h
 ·cases h
 split at h
 ·split at h
  ·cases h
  ·cases h; decide
 split at h
 ·split at h
  ·cases h
  ·cases h; decide
 split at h
 ·split at h
  ·cases h
  ·cases h; decide
 split at h
 ·cases h
 ·cases h; decide
/-! A token hangs on its own bytes and on what stands behind it, as far as that goes on in the same way, or ends, or a blank comes. -/
def isBl (c : UInt8) : Bool := c == 32 || c == 9 || c == 13 || c == 10
def BlH (y : List UInt8) : Prop := ∀ c r, y = c :: r → isBl c = true
def GoesOn (b z : List UInt8) : Prop := ∃ k y, BlH y ∧ z = b.take k ++ y
theorem isBl_cases {c : UInt8} (h : isBl c = true) : c = 32 ∨ c = 9 ∨ c = 13 ∨ c = 10 := by
 unfold isBl at h;simp only [Bool.or_eq_true, beq_iff_eq] at h;rcases h with ((h | h) | h) | h
 ·exact .inl h
 ·exact .inr (.inl h)
 ·exact .inr (.inr (.inl h))
 ·exact .inr (.inr (.inr h))
theorem GoesOn.head {b z : List UInt8} (h : GoesOn b z) : BlH z ∨ ∃ c b' z', b = c :: b' ∧ z = c :: z' ∧ GoesOn b' z' := by
 obtain ⟨k, y, hy, rfl⟩ := h;cases k with
 | zero => exact .inl (by rw [List.take_zero, List.nil_append]; exact hy)
 | succ k =>
  cases b with
  | nil => exact .inl (by rw [List.take_nil, List.nil_append]; exact hy)
  | cons c b' => exact .inr ⟨c, b', b'.take k ++ y, rfl, by rw [List.take_succ_cons]; rfl, k, y, hy, rfl⟩
theorem GoesOn.no {b z : List UInt8} (h : GoesOn b z) (p : UInt8 → Bool) (hp : p 32 = false ∧ p 9 = false ∧ p 13 = false ∧ p 10 = false) (hb : ∀ c r, b = c :: r → p c = false) : ∀ c r, z = c :: r → p c = false := by
 rintro c r rfl;rcases h.head with h | ⟨c', b', z', rfl, e, _⟩
 ·rcases isBl_cases (h c r rfl) with rfl | rfl | rfl | rfl
  ·exact hp.1
  ·exact hp.2.1
  ·exact hp.2.2.1
  ·exact hp.2.2.2
 ·rw [(List.cons.inj e).1];exact hb _ _ rfl
theorem at_app (a z : List UInt8) : atR (a ++ z) a.length = atR z 0 := by
 unfold atR;rw [List.getElem?_append_right (Nat.le_refl _), Nat.sub_self]
theorem at_in (a : List UInt8) {i : Nat} (b z : List UInt8) (h : i < a.length) : atR (a ++ z) i = atR (a ++ b) i := by
 unfold atR;rw [List.getElem?_append_left h, List.getElem?_append_left h]
theorem drop_in (a z : List UInt8) {i : Nat} (h : i ≤ a.length) : (a ++ z).drop i = a.drop i ++ z := List.drop_append_of_le_length h
theorem take_all (a z : List UInt8) : (a ++ z).take a.length = a := List.take_left
theorem wor_on {b z : List UInt8} (g : GoesOn b z) (h : worR (atR b 0) = false) : worR (atR z 0) = false := by
 cases z with
 | nil => decide
 | cons c r =>
  rw [atR_zero];refine g.no (fun c => worR c.toNat) (by decide) (fun c r e => ?_) c r rfl;rw [e, atR_zero] at h;exact h
theorem runW_on {b z : List UInt8} (hz : runW b = 0 → runW z = 0) : ∀ a : List UInt8, runW (a ++ b) ≤ a.length → runW (a ++ z) = runW (a ++ b)
 | [], h => by
  have : runW b = 0 := Nat.le_zero.1 h;rw [List.nil_append, List.nil_append, hz this, this]
 | c :: a, h => by
  simp only [List.cons_append, runW, List.length_cons] at h ⊢;by_cases hc : worR c.toNat = true
  ·rw [if_pos hc] at h ⊢;rw [if_pos hc, runW_on hz a (by omega)]
  ·rw [if_neg hc, if_neg hc]
theorem runQ_on {b z : List UInt8} (hz : runQ b = 0 → runQ z = 0) : ∀ a : List UInt8, runQ (a ++ b) ≤ a.length → runQ (a ++ z) = runQ (a ++ b)
 | [], h => by
  have : runQ b = 0 := Nat.le_zero.1 h;rw [List.nil_append, List.nil_append, hz this, this]
 | c :: a, h => by
  simp only [List.cons_append, runQ, List.length_cons] at h ⊢;by_cases hc : (c == 39) = true
  ·rw [if_pos hc] at h ⊢;rw [if_pos hc, runQ_on hz a (by omega)]
  ·rw [if_neg hc, if_neg hc]
theorem runW_z {b z : List UInt8} (g : GoesOn b z) (h : runW b = 0) : runW z = 0 := by
 cases z with
 | nil => rfl
 | cons c r =>
  have := g.no (fun c => worR c.toNat) (by decide) (fun c r e => by
   rw [e] at h;simp only [runW] at h;cases hw : worR c.toNat with
   | false => rfl
   | true => rw [if_pos hw] at h; omega) c r rfl
  simp only [runW];rw [if_neg (by rw [this]; decide)]
theorem runQ_z {b z : List UInt8} (g : GoesOn b z) (h : runQ b = 0) : runQ z = 0 := by
 cases z with
 | nil => rfl
 | cons c r =>
  have := g.no (fun c => c == 39) (by decide) (fun c r e => by
   rw [e] at h;simp only [runQ] at h;cases hw : (c == 39) with
   | false => rfl
   | true => rw [if_pos hw] at h; omega) c r rfl
  simp only [runQ];rw [if_neg (by rw [this]; decide)]
theorem idR_on {a b z : List UInt8} (ha : a ≠ []) (g : GoesOn b z) (h : idR (a ++ b) 0 = a.length) : idR (a ++ z) 0 = a.length := by
 have hl := List.length_pos_iff.2 ha;unfold idR at h ⊢;rw [at_in a b z hl];split
 ·rename_i hc;rw [if_pos hc] at h;exact h
 ·rename_i hc;rw [if_neg hc] at h;simp only [List.drop_zero, Nat.zero_add] at h ⊢;have h1 := runW_on (runW_z g) a (by omega);rw [h1];rw [drop_in a b (by omega)] at h;rw [drop_in a z (by omega)];have h2 := runQ_on (runQ_z g) (a.drop (runW (a ++ b))) (by rw [List.length_drop]; omega);rw [h2];exact h
theorem idR_zero {a b z : List UInt8} (ha : a ≠ []) (h : ¬ 0 < idR (a ++ b) 0) : ¬ 0 < idR (a ++ z) 0 := by
 have hl := List.length_pos_iff.2 ha;unfold idR at h ⊢;rw [at_in a b z hl];split
 ·exact Nat.lt_irrefl 0
 ·rename_i hc;rw [if_neg hc] at h;exfalso;apply h;obtain ⟨c, a', rfl⟩ : ∃ c a', a = c :: a' := by cases a with | nil => exact absurd rfl ha | cons c a' => exact ⟨c, a', rfl⟩
  simp only [List.drop_zero, Nat.zero_add, List.cons_append, runW];rw [List.cons_append, atR_zero] at hc;have hw : worR c.toNat = true := by
   unfold worR;cases h1 : letR c.toNat with
   | true => rfl
   | false =>
    rw [h1] at hc;simp only [Bool.not_false, Bool.true_and, bne_iff_ne, ne_eq, Classical.not_not] at hc;rw [hc];decide
  rw [if_pos hw];omega
theorem bl_val {c : UInt8} (h : isBl c = true) {base : Int} (hb : base ≤ 16) : ¬ valN c.toNat < base ∧ c.toNat ≠ 95 := by
 have e : valN c.toNat = 99 ∧ c.toNat ≠ 95 := by rcases isBl_cases h with rfl | rfl | rfl | rfl <;> decide
 exact ⟨by omega, e.2⟩
theorem runF_cons (base : Int) (c : UInt8) (r : List UInt8) (n : Nat) : runF base (c :: r) n = if valN c.toNat < base then runF base r (n + 1) else if c.toNat ≠ 95 ∨ n = 0 then some n else match r with
    | d :: _ => if valN d.toNat < base then runF base r (n + 1) else none
    | [] => none := by
  rw [runF.eq_def]
  rfl
theorem runF_hz {base : Int} (hb : base ≤ 16) {b z : List UInt8} (g : GoesOn b z) (n : Nat) (h : runF base b n = some n) : runF base z n = some n := by
 rcases g.head with hz | ⟨c, b', z', rfl, rfl, _⟩
 ·cases z with
  | nil => rfl
  | cons c r =>
   obtain ⟨h1, h2⟩ := bl_val (hz c r rfl) hb;rw [runF_cons, if_neg h1, if_pos (.inl h2)]
 ·by_cases hv : valN c.toNat < base
  ·rw [runF_cons, if_pos hv] at h;have := runF_ge base _ _ _ h;omega
  ·by_cases hu : c.toNat ≠ 95 ∨ n = 0
   ·rw [runF_cons, if_neg hv, if_pos hu]
   ·rw [runF_cons, if_neg hv, if_neg hu] at h;cases b' with
    | nil => cases h
    | cons d r =>
     simp only at h;split at h
     ·have := runF_ge base _ _ _ h;omega
     ·cases h
theorem runF_on {base : Int} (hb : base ≤ 16) {b z : List UInt8} (g : GoesOn b z) : ∀ (a : List UInt8) (n m : Nat), runF base (a ++ b) n = some m → m ≤ n + a.length → runF base (a ++ z) n = some m
 | [], n, m, h, hm => by
  have := runF_ge base _ _ _ h;have e : m = n := by simp only [List.length_nil] at hm; omega
  subst e;exact runF_hz hb g m h
 | c :: a, n, m, h, hm => by
  simp only [List.length_cons] at hm;rw [List.cons_append] at h ⊢;by_cases hv : valN c.toNat < base
  ·rw [runF_cons, if_pos hv] at h ⊢;exact runF_on hb g a (n + 1) m h (by omega)
  ·by_cases hu : c.toNat ≠ 95 ∨ n = 0
   ·rw [runF_cons, if_neg hv, if_pos hu] at h ⊢;exact h
   ·rw [runF_cons, if_neg hv, if_neg hu] at h ⊢;cases a with
    | nil =>
     exfalso;rw [List.nil_append] at h;cases b with
     | nil => cases h
     | cons d r =>
      simp only at h;split at h
      ·rename_i hd;rw [runF_cons, if_pos hd] at h;have := runF_ge base _ _ _ h;simp only [List.length_nil] at hm;omega
      ·cases h
    | cons d a' =>
     simp only [List.cons_append] at h ⊢;split at h
     ·rename_i hd;rw [if_pos hd];exact runF_on hb g (d :: a') (n + 1) m h (by omega)
     ·cases h
theorem preR_iff {s p : List UInt8} : preR s p = true ↔ p <+: s := by
 simp only [preR, Bool.and_eq_true, decide_eq_true_eq, beq_iff_eq];constructor
 ·rintro ⟨_, h⟩;rw [← h];exact List.take_prefix _ _
 ·intro h;exact ⟨h.length_le, (List.prefix_iff_eq_take.1 h).symm⟩
theorem pre_on {a b z p : List UInt8} (hp : ∀ c ∈ p, isBl c = false) (g : GoesOn b z) (h : preR (a ++ z) p = true) : preR (a ++ b) p = true := by
 obtain ⟨k, y, hy, rfl⟩ := g;rw [preR_iff] at h ⊢;rw [← List.append_assoc] at h;by_cases hl : p.length ≤ (a ++ b.take k).length
 ·exact (List.prefix_of_prefix_length_le h (List.prefix_append _ _) hl).trans ((List.prefix_append_right_inj a).2 (List.take_prefix k b))
 ·exfalso;have h2 := List.prefix_of_prefix_length_le (List.prefix_append (a ++ b.take k) y) h (by omega);obtain ⟨t, rfl⟩ := h2;have h3 := (List.prefix_append_right_inj _).1 h;cases t with
  | nil => simp at hl
  | cons c t =>
   obtain ⟨u, rfl⟩ := h3;have h4 := hy c (t ++ u) rfl;rw [hp c (by simp)] at h4;cases h4
theorem pre_tt {a b z p : List UInt8} (hl : p.length ≤ a.length) (h : preR (a ++ b) p = true) : preR (a ++ z) p = true := by
 rw [preR_iff] at h ⊢;exact (List.prefix_of_prefix_length_le h (List.prefix_append a b) hl).trans (List.prefix_append a z)
theorem end_on {a b z : List UInt8} (g : GoesOn b z) (h : endQ (a ++ b) a.length = true) : endQ (a ++ z) a.length = true := by
 rw [endQ_eq (by simp), at_app] at h ⊢;rw [Bool.not_eq_true'] at h ⊢;exact wor_on g h
theorem pfxQ_on {a b z t : List UInt8} {base : Nat} {K : Int} (hb : base ≤ 16) (g : GoesOn b z) (h : pfxQ (a ++ b) base = some (K, t, a.length)) : pfxQ (a ++ z) base = some (K, t, a.length) := by
 unfold pfxQ at h ⊢;cases hr : runF base ((a ++ b).drop 2) 0 with
 | none => rw [hr] at h; cases h
 | some n =>
  rw [hr] at h;simp only at h;split at h
  ·rename_i hn;cases hw : whoF base (((a ++ b).take (2 + n)).drop 2) 0 with
   | none => rw [hw] at h; cases h
   | some v =>
    rw [hw] at h;simp only at h;split at h
    ·rename_i he;simp only [Option.some.injEq, Prod.mk.injEq] at h;obtain ⟨h1, h2, h3⟩ := h;rw [drop_in a b (by omega)] at hr;rw [drop_in a z (by omega), runF_on (by omega) g _ _ _ hr (by rw [List.length_drop]; omega)];rw [h3, take_all] at hw;rw [h3] at he;simp only [h3, take_all];rw [if_pos hn, hw];simp only;rw [if_pos (end_on g he), h1, h2]
    ·cases h
  ·cases h
theorem expF_on {b z : List UInt8} (g : GoesOn b z) : ∀ (a : List UInt8), expF (a ++ b) = some a.length → expF (a ++ z) = some a.length
 | [], h => by
  rw [List.nil_append] at h ⊢;cases z with
  | nil => rfl
  | cons c r =>
   have := g.no (fun c => c == 101 || c == 69) (by decide) (fun c r e => by
    subst e;simp only [expF] at h;cases hc : (c == 101 || c == 69) with
    | false => rfl
    | true =>
     exfalso;simp only [Bool.or_eq_true, beq_iff_eq] at hc;rw [if_pos hc] at h;split at h
     ·simp at h
     ·cases h) c r rfl
   simp only [Bool.or_eq_false_iff, beq_eq_false_iff_ne] at this;simp only [expF];rw [if_neg (by rintro (h | h); exact this.1 h; exact this.2 h)];rfl
 | [c], h => by
  exfalso;simp only [List.cons_append, List.nil_append, expF, List.length_cons, List.length_nil, Nat.zero_add] at h;split at h
  ·have hs : 1 ≤ sgnE b := by unfold sgnE; split <;> (try split) <;> omega
   split at h
   ·simp only [Option.some.injEq] at h; omega
   ·cases h
  ·cases h
 | c :: d :: a, h => by
  simp only [List.cons_append, expF, List.length_cons] at h ⊢;split at h
  ·rename_i hc;rw [if_pos hc];have e1 : sgnE (d :: (a ++ z)) = sgnE (d :: (a ++ b)) := rfl;rw [e1];have hs : sgnE (d :: (a ++ b)) ≤ 2 := by unfold sgnE; split <;> (try split) <;> omega
   generalize hq : sgnE (d :: (a ++ b)) = q at h hs ⊢;have e2 : ∀ x : List UInt8, (c :: d :: (a ++ x)).drop q = (c :: d :: a).drop q ++ x := fun x => drop_in (c :: d :: a) x (by simp only [List.length_cons]; omega);rw [e2] at h ⊢;cases hr : runF 10 ((c :: d :: a).drop q ++ b) 0 with
   | none => rw [hr] at h; cases h
   | some j =>
    rw [hr] at h;cases j with
    | zero => cases h
    | succ j =>
     simp only [Option.some.injEq] at h;rw [runF_on (by decide) g _ _ _ hr (by rw [List.length_drop]; simp only [List.length_cons]; omega)];simp only [Option.some.injEq];exact h
  ·simp at h
theorem tailQ_on {a b z : List UInt8} {m : Nat} {r r' : Bool} (g : GoesOn b z) (hm : m ≤ a.length) (h : tailQ (a ++ b) m r = some (a.length, r')) : tailQ (a ++ z) m r = some (a.length, r') := by
 unfold tailQ at h ⊢;rw [drop_in a b hm] at h;rw [drop_in a z hm];cases he : expF (a.drop m ++ b) with
 | none => rw [he] at h; cases h
 | some k =>
  rw [he] at h;simp only at h;split at h
  ·rename_i hk;split at h
   ·rename_i hq;simp only [Option.some.injEq, Prod.mk.injEq] at h;have hl : k = (a.drop m).length := by rw [List.length_drop]; omega
    rw [hl] at he;rw [expF_on g _ he];simp only;rw [if_pos (by omega), ← hl, h.1];rw [h.1] at hq;rw [if_pos (end_on g hq), h.2]
   ·cases h
  ·rename_i hk;split at h
   ·rename_i hq;simp only [Option.some.injEq, Prod.mk.injEq] at h;have hl : k = (a.drop m).length := by rw [List.length_drop]; omega
    rw [hl] at he;rw [expF_on g _ he];simp only;rw [if_neg (by omega), h.1];rw [h.1] at hq;rw [if_pos (end_on g hq), h.2]
   ·cases h
theorem tailQ_ge {s : List UInt8} {m e : Nat} {r r' : Bool} (h : tailQ s m r = some (e, r')) : m ≤ e := by
 unfold tailQ at h;split at h
 ·cases h
 ·split at h
  ·split at h
   ·simp only [Option.some.injEq, Prod.mk.injEq] at h; omega
   ·cases h
  ·split at h
   ·simp only [Option.some.injEq, Prod.mk.injEq] at h; omega
   ·cases h
theorem dig_on {b z : List UInt8} (g : GoesOn b z) (h : 0 ≤ digR (atR z 0) 10) : 0 ≤ digR (atR b 0) 10 := by
 rw [dig10_iff] at h ⊢;rcases g.head with hz | ⟨c, b', z', rfl, rfl, _⟩
 ·cases z with
  | nil => rw [atR_nil] at h; omega
  | cons c r =>
   rw [atR_zero] at h;rcases isBl_cases (hz c r rfl) with rfl | rfl | rfl | rfl <;> exact absurd h (by decide)
 ·rw [atR_zero] at h ⊢;exact h
theorem fr_on {a b z : List UInt8} {n : Nat} (g : GoesOn b z) (hn : n ≤ a.length) (h : ((atR (a ++ z) n == 46) && decide (0 ≤ digR (atR (a ++ z) (n + 1)) 10)) = true) : ((atR (a ++ b) n == 46) && decide (0 ≤ digR (atR (a ++ b) (n + 1)) 10)) = true := by
 simp only [Bool.and_eq_true, beq_iff_eq, decide_eq_true_eq] at h ⊢;rcases Nat.lt_or_ge n a.length with h1 | h1
 ·rw [at_in a b z h1] at h;refine ⟨h.1, ?_⟩;rcases Nat.lt_or_ge (n + 1) a.length with h2 | h2
  ·rw [at_in a b z h2] at h;exact h.2
  ·have e : n + 1 = a.length := by omega
   rw [e, at_app] at h ⊢;exact dig_on g h.2
 ·have e : n = a.length := by omega
  subst e;have e1 : ∀ x : List UInt8, atR (a ++ x) (a.length + 1) = atR x 1 := fun x => by
   unfold atR;rw [List.getElem?_append_right (by omega), show a.length + 1 - a.length = 1 from by omega]
  rw [at_app, e1] at h ⊢;rcases g.head with hz | ⟨c, b', z', rfl, rfl, g'⟩
  ·exfalso;cases z with
   | nil => rw [atR_nil] at h; omega
   | cons c r =>
    rw [atR_zero] at h;rcases isBl_cases (hz c r rfl) with rfl | rfl | rfl | rfl <;> exact absurd h.1 (by decide)
  ·rw [atR_zero, atR_succ] at h ⊢;exact ⟨h.1, dig_on g' h.2⟩
theorem decF_on {a b z : List UInt8} {r : Bool} (g : GoesOn b z) (h : decF (a ++ b) = some (a.length, r)) : decF (a ++ z) = some (a.length, r) := by
 have hok := decF_ok h;unfold decF at h ⊢;cases hr : runF 10 (a ++ b) 0 with
 | none => rw [hr] at h; cases h
 | some n =>
  rw [hr] at h;have hn := hok.2 n hr;simp only at hn;rw [runF_on (by decide) g a 0 n hr (by omega)];simp only at h ⊢;split at h
  ·rename_i hc;cases hr2 : runF 10 ((a ++ b).drop (n + 1)) 0 with
   | none => rw [hr2] at h; cases h
   | some k =>
    rw [hr2] at h;simp only at h;have hge := tailQ_ge h;have hd : 0 < k := runF_dig (x := (a ++ b).drop (n + 1)) (by
     rw [show atS ((a ++ b).drop (n + 1)) 0 = atS (a ++ b) (n + 1 : Nat) from by rw [atS_R, ← Nat.add_zero (n + 1), atR_sh]; rfl];exact hc.2.2) hr2
    have hcz : n + 1 < (a ++ z).length ∧ atS (a ++ z) n = 46 ∧ (decide (48 ≤ atS (a ++ z) (n + 1 : Nat)) && decide (atS (a ++ z) (n + 1 : Nat) ≤ 57)) = true := by
     refine ⟨by rw [List.length_append]; omega, ?_⟩;have h2 := hc.2;rw [atS_R, atS_R] at h2 ⊢;rw [at_in a b z (by omega), at_in a b z (by omega)];exact h2
    rw [if_pos hcz, drop_in a z (by omega)];rw [drop_in a b (by omega)] at hr2;rw [runF_on (by decide) g _ _ _ hr2 (by rw [List.length_drop]; omega)];exact tailQ_on g (by omega) h
  ·rename_i hc;rw [if_neg (fun hz => hc ((fr_iff _ _).1 (fr_on g hn ((fr_iff _ _).2 hz))))];exact tailQ_on g hn h
theorem numQ_on {a b z t : List UInt8} {K : Int} (g : GoesOn b z) (h : numQ (a ++ b) = some (K, t, a.length)) : numQ (a ++ z) = some (K, t, a.length) := by
 have nb : ∀ x : UInt8, isBl x = false → ∀ c ∈ [48, x], isBl c = false := fun x hx c hc => by
  rcases List.mem_cons.1 hc with rfl | hc
  ·decide
  ·rw [List.mem_singleton.1 hc]; exact hx
 rw [numQ_eq] at h ⊢;split at h
 ·rename_i hx;have h2 : 2 ≤ a.length := by
   unfold pfxQ at h;split at h
   ·cases h
   ·split at h
    ·split at h
     ·cases h
     ·split at h
      ·simp only [Option.some.injEq, Prod.mk.injEq] at h; omega
      ·cases h
    ·cases h
  rw [if_pos (pre_tt (p := [48, 120]) h2 hx)];exact pfxQ_on (by decide) g h
 ·rename_i hx;rw [if_neg (fun e => hx (pre_on (nb 120 (by decide)) g e))];split at h
  ·rename_i hb;have h2 : 2 ≤ a.length := by
    unfold pfxQ at h;split at h
    ·cases h
    ·split at h
     ·split at h
      ·cases h
      ·split at h
       ·simp only [Option.some.injEq, Prod.mk.injEq] at h; omega
       ·cases h
     ·cases h
   rw [if_pos (pre_tt (p := [48, 98]) h2 hb)];exact pfxQ_on (by decide) g h
  ·rename_i hb;rw [if_neg (fun e => hb (pre_on (nb 98 (by decide)) g e))];cases hd : decF (a ++ b) with
   | none => rw [hd] at h; cases h
   | some p =>
    obtain ⟨m, r⟩ := p;rw [hd] at h;have hm : m = a.length := by
     cases r with
     | true =>
      simp only [decO, Option.some.injEq, Prod.mk.injEq] at h;exact h.2.2
     | false =>
      simp only [decO] at h;split at h
      ·cases h
      ·simp only [Option.some.injEq, Prod.mk.injEq] at h;exact h.2.2
    subst hm;rw [decF_on g hd];cases r with
    | true =>
     simp only [decO, take_all] at h ⊢;exact h
    | false =>
     simp only [decO, take_all] at h ⊢;exact h
theorem atS_in (a : List UInt8) {i : Nat} (b z : List UInt8) (h : i < a.length) : atS (a ++ z) (i : Nat) = atS (a ++ b) (i : Nat) := at_in a b z h
theorem hexP_on (a b z : List UInt8) : ∀ n j c : Nat, j + n ≤ a.length → hexP (a ++ z) n j c = hexP (a ++ b) n j c
 | 0, j, c, h => rfl
 | n + 1, j, c, h => by
  simp only [hexP];rw [atS_in a b z (by omega)];split
  ·exact hexP_on a b z n (j + 1) _ (by omega)
  ·rfl
theorem finP_snd {l c : Nat} {p : List UInt8 × Nat} (h : finP l c = some p) : p.2 = 1 + l := by
 unfold finP at h;split at h
 ·exact (congrArg Prod.snd (Option.some.inj h)).symm
 ·cases h
theorem escQ_on {a b : List UInt8} {p : List UInt8 × Nat} (z : List UInt8) (h : escQ (a ++ b) = some p) (hp : p.2 ≤ a.length) : escQ (a ++ z) = some p := by
 have ha : 0 < p.2 := by
  unfold escQ at h;split at h
  ·cases h
  ·split at h
   ·cases h; exact Nat.one_pos
   ·split at h
    ·split at h
     ·rw [finP_snd h]; exact Nat.lt_add_right _ Nat.one_pos
     ·cases h
    ·cases h
 obtain ⟨c, a', rfl⟩ : ∃ c a', a = c :: a' := by
  cases a with
  | nil => simp only [List.length_nil] at hp; omega
  | cons c a' => exact ⟨c, a', rfl⟩
 unfold escQ at h ⊢;rw [if_neg (by simp)] at h ⊢;have e0 : atS (c :: a' ++ z) 0 = atS (c :: a' ++ b) 0 := rfl;rw [e0];generalize atS (c :: a' ++ b) 0 = w at h ⊢;cases hpl : plT w with
 | some x => rw [hpl] at h; exact h
 | none =>
  rw [hpl] at h;simp only at h ⊢;split at h
  ·rename_i hl;cases hx : hexP (c :: a' ++ b) (loT w) 1 0 with
   | none => rw [hx] at h; cases h
   | some v =>
    rw [hx] at h;simp only at h;have hp2 : p.2 = 1 + loT w := finP_snd h;rw [if_pos ⟨hl.1, by rw [List.length_append]; omega⟩, hexP_on (c :: a') b z _ _ _ (by omega), hx];exact h
  ·cases h
theorem quoQ_ge {s : List UInt8} {mk : Int} {n i : Nat} {out : List UInt8} {p : List UInt8 × Nat} (h : quoQ s mk n i out = some p) : i < p.2 ∧ p.2 ≤ s.length := by
 induction n generalizing i out with
 | zero => cases h
 | succ n ih =>
  simp only [quoQ] at h;split at h
  ·cases h
  ·split at h
   ·cases h
   ·split at h
    ·split at h
     ·cases h; simp only; omega
     ·cases h
    ·split at h
     ·split at h
      ·have := ih h; omega
      ·cases h
     ·have := ih h; omega
theorem quoQ_on {a b : List UInt8} (z : List UInt8) {mk : Int} {t : List UInt8} : ∀ (n n' i : Nat) (out : List UInt8), quoQ (a ++ b) mk n i out = some (t, a.length) → a.length ≤ n' + i → quoQ (a ++ z) mk n' i out = some (t, a.length)
 | 0, n', i, out, h, hn => by cases h
 | n + 1, 0, i, out, h, hn => by
  have := (quoQ_ge h).1;omega
 | n + 1, n' + 1, i, out, h, hn => by
  have hi := (quoQ_ge h).1;simp only at hi;simp only [quoQ] at h ⊢;rw [atS_in a b z hi];split at h
  ·cases h
  ·rw [if_neg (by rw [List.length_append]; omega)];split at h
   ·cases h
   ·rename_i h10;rw [if_neg h10];split at h
    ·rename_i hm;rw [if_pos hm];exact h
    ·rename_i hm;rw [if_neg hm];split at h
     ·rename_i h92;rw [if_pos h92];rw [drop_in a b (by omega)] at h;rw [drop_in a z (by omega)];cases he : escQ (a.drop (i + 1) ++ b) with
      | none => rw [he] at h; cases h
      | some p =>
       rw [he] at h;simp only at h;have h2 := (quoQ_ge h).1;simp only at h2;rw [escQ_on z he (by rw [List.length_drop]; omega)];exact quoQ_on z n n' _ _ h (by omega)
     ·rename_i h92;rw [if_neg h92];exact quoQ_on z n n' _ _ h (by omega)
theorem quoted_on {a b : List UInt8} (z : List UInt8) {mk : Int} {t : List UInt8} (h : quoted (a ++ b) mk = some (t, a.length)) : quoted (a ++ z) mk = some (t, a.length) :=
 quoQ_on z _ _ 1 [] h (by rw [List.length_append]; omega)
theorem chrQ_on {a b : List UInt8} (z : List UInt8) {t : List UInt8} (h : chrQ (a ++ b) = some (t, a.length)) : chrQ (a ++ z) = some (t, a.length) := by
 unfold chrQ at h ⊢;cases hq : quoted (a ++ b) 39 with
 | none => rw [hq] at h; cases h
 | some p =>
  obtain ⟨u, e⟩ := p;rw [hq] at h;simp only at h;split at h
  ·rename_i hc;simp only [Option.some.injEq, Prod.mk.injEq] at h;obtain ⟨h1, rfl⟩ := h;rw [quoted_on z hq];simp only;rw [if_pos hc, h1]
  ·cases h
theorem occ_on {a b z p : List UInt8} {i : Nat} (h : i + p.length ≤ a.length) : Lib.occAt (a ++ z) p i = Lib.occAt (a ++ b) p i := by
 unfold Lib.occAt;rw [Bool.eq_iff_iff, List.isPrefixOf_iff_prefix, List.isPrefixOf_iff_prefix, drop_in a z (by omega), drop_in a b (by omega)];constructor
 ·intro h2;exact (List.prefix_of_prefix_length_le h2 (List.prefix_append _ _) (by rw [List.length_drop]; omega)).trans (List.prefix_append _ _)
 ·intro h2;exact (List.prefix_of_prefix_length_le h2 (List.prefix_append _ _) (by rw [List.length_drop]; omega)).trans (List.prefix_append _ _)
theorem index_on {a b : List UInt8} (z : List UInt8) {p : List UInt8} {i : Nat} (h : Lib.index (a ++ b) p = i) (hi : i + p.length ≤ a.length) : Lib.index (a ++ z) p = i := by
 rcases Lib.index_spec (a ++ b) p with ⟨h1, _⟩ | ⟨j, h1, h2, h3, h4⟩
 ·omega
 ·have e : j = i := by omega
  subst e;refine Lib.index_first (by rw [List.length_append]; omega) (by rw [occ_on hi]; exact h3) fun k hk => ?_;rw [occ_on (b := b) (by omega)];exact h4 k hk
theorem txtQ_on {a b z t : List UInt8} (g : GoesOn b z) (h : txtQ (a ++ b) = some (t, a.length)) : txtQ (a ++ z) = some (t, a.length) := by
 unfold txtQ at h ⊢;split at h
 ·rename_i hp;split at h
  ·rename_i hc;obtain ⟨i, hi⟩ : ∃ i : Nat, Lib.index ((a ++ b).drop 3) [34, 34, 34] = i := ⟨_, (Int.toNat_of_nonneg hc.1).symm⟩;rw [hi] at h hc;simp only [Int.toNat_natCast] at h hc;simp only [Option.some.injEq, Prod.mk.injEq] at h;rw [if_pos (pre_tt (by simp only [List.length_cons, List.length_nil]; omega) hp)];rw [drop_in a b (by omega)] at hi h hc;rw [drop_in a z (by omega), index_on z hi (by rw [List.length_drop]; simp only [List.length_cons, List.length_nil]; omega)];simp only [Int.toNat_natCast];rw [List.take_append_of_le_length (by rw [List.length_drop]; omega)] at h hc ⊢;rw [if_pos hc, h.1, h.2]
  ·cases h
 ·rename_i hp;rw [if_neg (fun e => hp (pre_on (by intro c hc; simp only [List.mem_cons, List.not_mem_nil, or_false, or_self] at hc; rw [hc]; decide) g e))];exact quoted_on z h
def alw (s x : List UInt8) : Bool := preR s x && !((letR (lastB x) || (lastB x == 95)) && (decide (x.length < s.length) && worR (atR s x.length)))
theorem okP_alw (s best x : List UInt8) : okP s best x = (decide (best.length < x.length) && alw s x) := rfl
theorem sgF_spec (s : List UInt8) : ∀ (L : List (List UInt8)) (best : List UInt8), (sgF s L best = best ∨ (sgF s L best ∈ L ∧ alw s (sgF s L best) = true)) ∧ best.length ≤ (sgF s L best).length ∧ ∀ x ∈ L, alw s x = true → x.length ≤ (sgF s L best).length
 | [], best => ⟨.inl rfl, Nat.le_refl _, fun x hx => absurd hx (by simp)⟩
 | y :: L, best => by
  simp only [sgF];by_cases hy : okP s best y = true
  ·rw [if_pos hy];obtain ⟨h1, h2, h3⟩ := sgF_spec s L y;rw [okP_alw, Bool.and_eq_true, decide_eq_true_eq] at hy;refine ⟨.inr ?_, by omega, fun x hx ha => ?_⟩
   ·rcases h1 with h1 | h1
    ·rw [h1]; exact ⟨by simp, hy.2⟩
    ·exact ⟨by simp [h1.1], h1.2⟩
   ·rcases List.mem_cons.1 hx with rfl | hx
    ·exact h2
    ·exact h3 x hx ha
  ·rw [if_neg hy];obtain ⟨h1, h2, h3⟩ := sgF_spec s L best;refine ⟨?_, h2, fun x hx ha => ?_⟩
   ·rcases h1 with h1 | h1
    ·exact .inl h1
    ·exact .inr ⟨by simp [h1.1], h1.2⟩
   ·rcases List.mem_cons.1 hx with rfl | hx
    ·rw [okP_alw, ha, Bool.and_true, decide_eq_true_eq] at hy;omega
    ·exact h3 x hx ha
theorem sgF_unique {s x : List UInt8} {L : List (List UInt8)} (hx : x ∈ L) (hne : x ≠ []) (ha : alw s x = true) (hm : ∀ y ∈ L, alw s y = true → y.length ≤ x.length) : sgF s L [] = x := by
 obtain ⟨h1, h2, h3⟩ := sgF_spec s L [];have h4 := h3 x hx ha;have hl := List.length_pos_iff.2 hne;rcases h1 with h1 | ⟨h5, h6⟩
 ·rw [h1] at h4; simp only [List.length_nil] at h4; omega
 ·have h7 := hm _ h5 h6;have p1 : preR s x = true := by unfold alw at ha; rw [Bool.and_eq_true] at ha; exact ha.1
  have p2 : preR s (sgF s L []) = true := by unfold alw at h6; rw [Bool.and_eq_true] at h6; exact h6.1
  rw [preR_iff] at p1 p2;exact (List.prefix_of_prefix_length_le p2 p1 h7).eq_of_length (by omega)
theorem sg_bl : ∀ x ∈ sgnL, ∀ c ∈ x, isBl c = false := by decide
theorem sg_pre : ∀ x ∈ sgnL, ∀ y ∈ sgnL, (letR (lastB x) || (lastB x == 95)) = true → y.isPrefixOf x = true → y = x := by decide
theorem sgF_on {a b z : List UInt8} (ha : a ≠ []) (g : GoesOn b z) (h : sgF (a ++ b) sgnL [] = a) : sgF (a ++ z) sgnL [] = a := by
 obtain ⟨h1, h2, h3⟩ := sgF_spec (a ++ b) sgnL [];rw [h] at h1 h2 h3;have ⟨hmem, halw⟩ : a ∈ sgnL ∧ alw (a ++ b) a = true := by
  rcases h1 with h1 | h1
  ·exact absurd h1 ha
  ·exact h1
 refine sgF_unique hmem ha ?_ fun y hy hyz => ?_
 ·unfold alw at halw ⊢;rw [Bool.and_eq_true] at halw ⊢;refine ⟨preR_iff.2 (List.prefix_append a z), ?_⟩;have h5 := halw.2;rw [at_app] at h5 ⊢;rw [Bool.not_eq_true', Bool.and_eq_false_iff, Bool.and_eq_false_iff] at h5 ⊢;rcases h5 with h5 | h5 | h5
  ·exact .inl h5
  ·refine .inr (.inr ?_);rw [decide_eq_false_iff_not] at h5;have : b = [] := by
    rw [List.length_append] at h5;exact List.length_eq_zero_iff.1 (by omega)
   exact wor_on g (by rw [this]; decide)
  ·exact .inr (.inr (wor_on g h5))
 ·have p2 : preR (a ++ z) y = true := by unfold alw at hyz; rw [Bool.and_eq_true] at hyz; exact hyz.1
  have p3 := pre_on (sg_bl y hy) g p2;by_cases hb : alw (a ++ b) y = true
  ·exact h3 y hy hb
  ·have hl : (letR (lastB y) || (lastB y == 95)) = true := by
    unfold alw at hb;rw [p3, Bool.true_and] at hb;cases hq : (letR (lastB y) || (lastB y == 95)) with
    | true => rfl
    | false => rw [hq] at hb; exact absurd rfl hb
   rcases Nat.lt_or_ge a.length y.length with hlt | hge
   ·have hpre : a <+: y := List.prefix_of_prefix_length_le (List.prefix_append a b) (preR_iff.1 p3) (by omega);rw [sg_pre y hy a hmem hl (List.isPrefixOf_iff_prefix.2 hpre)];exact Nat.le_refl _
   ·exact hge
theorem tokQ_on {a b z t : List UInt8} {K : Int} (ha : a ≠ []) (g : GoesOn b z) (h : tokQ kw numQ (a ++ b) = .inr (K, t, a.length)) : tokQ kw numQ (a ++ z) = .inr (K, t, a.length) := by
 have hl := List.length_pos_iff.2 ha;have e0 : atS (a ++ z) 0 = atS (a ++ b) 0 := atS_in a b z hl;unfold tokQ at h ⊢;split at h
 ·rename_i h1;simp only [Sum.inr.injEq, Prod.mk.injEq] at h;obtain ⟨h2, h3, h4⟩ := h;have := idR_on ha g h4;rw [this, if_pos hl, take_all];rw [h4, take_all] at h2 h3;rw [h2, h3]
 ·rename_i h1;rw [if_neg (idR_zero ha h1), e0];split at h
  ·rename_i h2;rw [if_pos h2];cases hn : numQ (a ++ b) with
   | none => rw [hn] at h; cases h
   | some r =>
    rw [hn] at h;simp only [Sum.inr.injEq] at h;subst h;rw [numQ_on g hn]
  ·rename_i h2;rw [if_neg h2];split at h
   ·rename_i h3;rw [if_pos h3];cases hn : chrQ (a ++ b) with
    | none => rw [hn] at h; cases h
    | some r =>
     rw [hn] at h;simp only [Sum.inr.injEq, Prod.mk.injEq] at h;obtain ⟨h4, h5, h6⟩ := h;have e : r = (t, a.length) := Prod.ext h5 h6;rw [e] at hn;rw [chrQ_on z hn, h4]
   ·rename_i h3;rw [if_neg h3];split at h
    ·rename_i h4;rw [if_pos h4];cases hn : txtQ (a ++ b) with
     | none => rw [hn] at h; cases h
     | some r =>
      rw [hn] at h;simp only [Sum.inr.injEq, Prod.mk.injEq] at h;obtain ⟨h4, h5, h6⟩ := h;have e : r = (t, a.length) := Prod.ext h5 h6;rw [e] at hn;rw [txtQ_on g hn, h4]
    ·rename_i h4;rw [if_neg h4];split at h
     ·rename_i h5;simp only [Sum.inr.injEq, Prod.mk.injEq] at h;obtain ⟨h6, h7, h8⟩ := h;have hsg : sgF (a ++ b) sgnL [] = a := by
       obtain ⟨k1, k2, k3⟩ := sgF_spec (a ++ b) sgnL [];rcases k1 with k1 | ⟨k1, k4⟩
       ·rw [k1] at h5; exact absurd h5 (Nat.lt_irrefl 0)
       ·unfold alw at k4;rw [Bool.and_eq_true] at k4;exact (List.prefix_of_prefix_length_le (preR_iff.1 k4.1) (List.prefix_append a b) (by omega)).eq_of_length h8
      rw [sgF_on ha g hsg, if_pos hl, ← h6, ← h7, hsg]
     ·cases h
/-! Blanks and comments, in another surrounding. -/
theorem lnL_on {b z : List UInt8} : ∀ a : List UInt8, lnL (a ++ b) < a.length → lnL (a ++ z) = lnL (a ++ b)
 | [], h => absurd h (Nat.not_lt_zero _)
 | c :: a, h => by
  simp only [List.cons_append, lnL, List.length_cons] at h ⊢;by_cases hc : (c == 10) = true
  ·rw [if_pos hc, if_pos hc]
  ·rw [if_neg hc] at h ⊢;rw [if_neg hc, lnL_on (b := b) (z := z) a (by omega)]
theorem comF_ge {s : List UInt8} : ∀ (n i d e : Nat), comF s n i d = some e → i + 2 ≤ e
 | 0, i, d, e, h => by cases h
 | n + 1, i, d, e, h => by
  simp only [comF] at h;split at h
  ·have := comF_ge n _ _ _ h; omega
  ·split at h
   ·split at h
    ·cases h; omega
    ·have := comF_ge n _ _ _ h; omega
   ·split at h
    ·have := comF_ge n _ _ _ h; omega
    ·cases h
section
variable {s y : List UInt8} {c : Nat}
theorem cut_len (hc : c < s.length) : (s.take c).length = c := by rw [List.length_take]; omega
theorem drop_old {i : Nat} (hc : c < s.length) (hi : i ≤ c) : s.drop i = (s.take c).drop i ++ s.drop c := by
 have := List.drop_append_of_le_length (l₁ := s.take c) (l₂ := s.drop c) (i := i) (by rw [cut_len hc]; exact hi);rw [List.take_append_drop] at this;exact this
theorem drop_new {i : Nat} (hc : c < s.length) (hi : i ≤ c) : (s.take c ++ y).drop i = (s.take c).drop i ++ y :=
 List.drop_append_of_le_length (by rw [cut_len hc]; exact hi)
theorem at_new {i : Nat} (hc : c < s.length) (hi : i < c) : atS (s.take c ++ y) (i : Nat) = atS s (i : Nat) := by
 have := at_in (s.take c) (s.drop c) y (i := i) (by rw [cut_len hc]; exact hi);rw [List.take_append_drop] at this;exact this
theorem cut_new {i e : Nat} (hc : c < s.length) (he : e ≤ c) : ((s.take c ++ y).take e).drop i = (s.take e).drop i := by
 rw [List.take_append_of_le_length (by rw [cut_len hc]; exact he), List.take_take, Nat.min_eq_left he]
theorem pre_new {i : Nat} {p : List UInt8} (hc : c < s.length) (hi : i + p.length ≤ c) : preR ((s.take c ++ y).drop i) p = preR (s.drop i) p := by
 rw [drop_new hc (by omega), drop_old hc (by omega), Bool.eq_iff_iff];have hl : p.length ≤ ((s.take c).drop i).length := by rw [List.length_drop, cut_len hc]; omega
 exact ⟨pre_tt hl, pre_tt hl⟩
theorem comF_on (hc : c < s.length) : ∀ (n N i d e : Nat), comF s n i d = some e → e ≤ c → (s.take c ++ y).length < N + i → comF (s.take c ++ y) N i d = some e
 | 0, N, i, d, e, h, he, hN => by cases h
 | n + 1, N, i, d, e, h, he, hN => by
  have hge := comF_ge _ _ _ _ h;obtain ⟨N, rfl⟩ : ∃ M, N = M + 1 := ⟨N - 1, by rw [List.length_append, cut_len hc] at hN; omega⟩;have p1 : preR ((s.take c ++ y).drop i) [47, 42] = preR (s.drop i) [47, 42] := pre_new hc (by simp only [List.length_cons, List.length_nil]; omega);have p2 : preR ((s.take c ++ y).drop i) [42, 47] = preR (s.drop i) [42, 47] := pre_new hc (by simp only [List.length_cons, List.length_nil]; omega);simp only [comF] at h ⊢;rw [p1, p2];split at h
  ·rename_i h1;rw [if_pos h1];exact comF_on hc n N _ _ _ h he (by omega)
  ·rename_i h1;rw [if_neg h1];split at h
   ·rename_i h2;rw [if_pos h2];split at h
    ·rename_i h3;rw [if_pos h3]; exact h
    ·rename_i h3;rw [if_neg h3];exact comF_on hc n N _ _ _ h he (by omega)
   ·rename_i h2;rw [if_neg h2];split at h
    ·rw [if_pos (by rw [List.length_append, cut_len hc]; omega)];exact comF_on hc n N _ _ _ h he (by omega)
    ·cases h
theorem skF_blank {n i j : Nat} {b l' : Bool} (hi : i < s.length) (hb : atS s (i : Nat) = 10) (hn : s.length < n + i) (h : skF s n i b = .inr (j, l')) : i + 1 ≤ j := by
 obtain ⟨n, rfl⟩ : ∃ m, n = m + 1 := ⟨n - 1, by omega⟩;simp only [skF, if_pos hi, hb] at h;rw [if_pos (by simp)] at h;exact (skF_ok s _ _ _ _ _ (by omega) h).1
theorem comQ_on (hc : c < s.length) {i n j : Nat} {b l' : Bool} {p : Nat × Bool} (hi : i < s.length) (hn : s.length < n + p.1) (h : comQ s i b = some (some p)) (hs : skF s n p.1 p.2 = .inr (j, l')) (hj : j ≤ c) : comQ (s.take c ++ y) i b = some (some p) := by
 have hpj := (skF_ok s _ _ _ _ _ (comQ_ok (by omega) h).2 hs).1;unfold comQ at h ⊢;split at h
 ·rename_i h1;have he : (if Lib.indexByte (s.drop i) 10 < 0 then s.length else i + (Lib.indexByte (s.drop i) 10).toNat) = i + lnL (s.drop i) := by
   rw [← ln_idx, List.length_drop];split <;> omega
  rw [he] at h;have hpe : p.1 = i + lnL (s.drop i) := by
   simp only [comE] at h;split at h
   ·simp only [Option.some.injEq] at h; rw [← h]
   ·cases h
  have hlt : i + lnL (s.drop i) < s.length := by omega
  have h10 : atS s ((i + lnL (s.drop i) : Nat) : Int) = 10 := by
   rw [atS_R, atR_sh];have key : ∀ L : List UInt8, lnL L < L.length → atR L (lnL L) = 10 := fun L => by
    induction L with
    | nil => intro h; exact absurd h (Nat.not_lt_zero _)
    | cons a L ih =>
     intro h;simp only [lnL, List.length_cons] at h ⊢;by_cases ha : (a == 10) = true
     ·rw [if_pos ha, atR_zero];rw [beq_iff_eq] at ha;rw [ha]; rfl
     ·rw [if_neg ha] at h ⊢;rw [atR_succ];exact ih (by omega)
   exact key _ (by rw [List.length_drop]; omega)
  have h2 := skF_blank (s := s) (i := p.1) (by omega) (by rw [hpe]; exact h10) hn hs;have hb1 : i + 2 ≤ c := by
   have := two_cut h1;have := lnL_pos (s := s) (i := i) (by rw [begR_pre s i _ (by omega)]; exact h1);have h3 : lnL (s.drop i) ≠ 1 := fun e => by
    have : atS s ((i + 1 : Nat) : Int) = 10 := by rw [← e]; exact h10
    rw [atS_R, atR_sh] at this;have h4 := preR_iff.1 h1;obtain ⟨u, hu⟩ := h4;rw [← hu] at this;exact absurd this (by rw [List.cons_append, atR_succ, List.cons_append, atR_zero]; decide)
   omega
  rw [if_pos (by rw [pre_new hc (by simp only [List.length_cons, List.length_nil]; omega)]; exact h1)];have he2 : (if Lib.indexByte ((s.take c ++ y).drop i) 10 < 0 then (s.take c ++ y).length else i + (Lib.indexByte ((s.take c ++ y).drop i) 10).toNat) = i + lnL (s.drop i) := by
   have e1 : lnL ((s.take c ++ y).drop i) = lnL (s.drop i) := by
    rw [drop_new hc (by omega), drop_old hc (by omega)];refine lnL_on _ ?_;rw [← drop_old hc (by omega), List.length_drop, cut_len hc];omega
   rw [← e1, ← ln_idx, List.length_drop];have : i ≤ (s.take c ++ y).length := by rw [List.length_append, cut_len hc]; omega
   split <;> omega
  rw [he2];simp only [comE] at h ⊢;rw [cut_new hc (by omega)];exact h
 ·rename_i h1;split at h
  ·rename_i h2;cases hf : comF s (s.length + 1) i 0 with
   | none => rw [hf] at h; simp [comE] at h
   | some e =>
    rw [hf] at h;simp only [comE] at h;have hpe : p.1 = e := by
     split at h
     ·simp only [Option.some.injEq] at h; rw [← h]
     ·cases h
    have hge := comF_ge _ _ _ _ hf;rw [if_neg (by rw [pre_new hc (by simp only [List.length_cons, List.length_nil]; omega)]; exact h1), if_pos (by rw [pre_new hc (by simp only [List.length_cons, List.length_nil]; omega)]; exact h2),
     comF_on hc _ _ _ _ _ hf (by omega) (by omega)]
    simp only [comE];rw [cut_new hc (by omega)];exact h
  ·cases h
theorem comQ_none (hy : BlH y) (hc : c < s.length) {i : Nat} {b : Bool} (hi : i < c) (h : comQ s i b = none) : comQ (s.take c ++ y) i b = none := by
 have g : GoesOn (s.drop c) y := ⟨0, y, hy, by rw [List.take_zero, List.nil_append]⟩;unfold comQ at h ⊢;split at h
 ·cases h
 ·rename_i h1;split at h
  ·cases h
  ·rename_i h2;rw [drop_old hc (by omega)] at h1 h2;rw [drop_new hc (by omega), if_neg (fun e => h1 (pre_on (by decide) g e)), if_neg (fun e => h2 (pre_on (by decide) g e))]
theorem skF_on (hy : BlH y) (hc : c < s.length) : ∀ (n N i : Nat) (b : Bool) (j : Nat) (l' : Bool), s.length < n + i → i ≤ s.length → skF s n i b = .inr (j, l') → j ≤ c → (s.take c ++ y).length < N + i →
    ∃ M, (s.take c ++ y).length < M + j ∧ skF (s.take c ++ y) N i b = skF (s.take c ++ y) M j l' ∧ (j < c → skF (s.take c ++ y) N i b = .inr (j, l'))
  | 0, N, i, b, j, l', hn, hi, h, hj, hN => by omega
  | n + 1, N, i, b, j, l', hn, hi, h, hj, hN => by
    have hij := (skF_ok s _ _ _ _ _ hi h).1
    simp only [skF] at h
    rw [if_pos (show i < s.length by omega)] at h
    split at h
    · rename_i hb
      have hij2 := (skF_ok s _ _ _ _ _ (by omega) h).1
      obtain ⟨N, rfl⟩ : ∃ M, N = M + 1 := ⟨N - 1, by rw [List.length_append, cut_len hc] at hN; omega⟩
      obtain ⟨M, h1, h2, h3⟩ := skF_on hy hc n N (i + 1) _ j l' (by omega) (by omega) h hj (by omega)
      have e : skF (s.take c ++ y) (N + 1) i b = skF (s.take c ++ y) N (i + 1) (b || decide (atS s (i : Nat) = 10)) := by
        simp only [skF]
        rw [if_pos (by rw [List.length_append, cut_len hc]; omega), at_new hc (by omega), if_pos hb]
      exact ⟨M, h1, e.trans h2, fun hlt => e.trans (h3 hlt)⟩
    · rename_i hb
      cases hcq : comQ s i b with
      | none =>
        rw [hcq] at h
        simp only [Sum.inr.injEq, Prod.mk.injEq] at h
        obtain ⟨rfl, rfl⟩ := h
        refine ⟨N, hN, rfl, fun hlt => ?_⟩
        obtain ⟨N, rfl⟩ : ∃ M, N = M + 1 := ⟨N - 1, by rw [List.length_append, cut_len hc] at hN; omega⟩
        simp only [skF]
        rw [if_pos (by rw [List.length_append, cut_len hc]; omega), at_new hc hlt, if_neg hb, comQ_none hy hc hlt hcq]
      | some o =>
        cases o with
        | none => rw [hcq] at h; cases h
        | some p =>
          rw [hcq] at h
          simp only at h
          have hok := comQ_ok hi hcq
          have hij2 := (skF_ok s _ _ _ _ _ hok.2 h).1
          obtain ⟨N, rfl⟩ : ∃ M, N = M + 1 := ⟨N - 1, by rw [List.length_append, cut_len hc] at hN; omega⟩
          obtain ⟨M, h1, h2, h3⟩ := skF_on hy hc n N p.1 p.2 j l' (by omega) hok.2 h hj (by omega)
          have e : skF (s.take c ++ y) (N + 1) i b = skF (s.take c ++ y) N p.1 p.2 := by
            simp only [skF]
            rw [if_pos (by rw [List.length_append, cut_len hc]; omega), at_new hc (by omega), if_neg hb, comQ_on hc (by omega) (by omega) hcq h hj]
          exact ⟨M, h1, e.trans h2, fun hlt => e.trans (h3 hlt)⟩
end
end Go.Ev
