/- The set of keywords, by a run of the evaluator. Walks over the look at a node by its kind. Walks over the end of a name, the whole. A byte at a place, a text at a place, the end of a name. The keywords and symbols of the reference. What a name is, as the reference sees it. Lemmas. Walks over digits. Walks over a number times a base. Walks over a number times a base, the whole. Numbers in decimal digits, and which is above another. Walks over the value of digits. The value of digits, in decimal digits. Walks over parts of a number. The exponent of a number. The exponent of a number, the whole. The fraction of a number. The end of a number. A number at a place: the walk. A number at a place. Walks over a comment of a line. Walks over blanks and comments. Blanks and comments at a place. A string of the second kind. Walks over a literal with marks. Walks over an escape. Escapes, literals and names of the reference. The decimal digits of a number, as an answer for the evaluator. Walks over the symbols. Walks over a token at a place. Where a token at a place ends. The token at a place. Walks over the tokens of a text. The tokens of a text: the walk. The tokens of a text. A text that is a number is one token. Bytes and names: letter, digit, part, word, ident, IsIdent. The scanner's faults, as values. Walks: must. What must and value return. digits and whole. Walks and specification: a run of digits. Walks and specification: an exponent. What is left of the text at a place. Walks and specification: HasPrefix. -/
import Derived.Test.YtmjplflnlggbeaaGreatDoorFWE
import Derived.Test.YtmjplflnlggbeaaGreatDoorFEvFunX
import Derived.Shelf.LaysM
import Derived.Shelf.Strconv.Itoa3
import Derived.Test.YtmjplflnlggbeaaGreatDoorFSy3
import Derived.Test.YtmjplflnlggbeaaGreatDoorFEvIter5
namespace Go.Ev
open Go Go.Proofs
set_option linter.unusedSimpArgs false
set_option linter.unusedVariables false
set_option linter.unnecessarySimpa false
set_option maxRecDepth 1000000
def kwHeap : Heap := [some { ty := 52, cells := [.s [97, 99, 116, 111, 114], .b true, .s [97, 110, 100], .b true, .s [97, 115], .b true, .s [98, 101], .b true, .s [98, 111, 120], .b true, .s [98, 114, 101, 97, 107], .b true, .s [99, 108, 97, 115, 115], .b true, .s [99, 111, 110, 115, 117, 109, 101], .b true, .s [99, 111, 110, 116, 105, 110, 117, 101], .b true, .s [100, 111], .b true, .s [101, 108, 115, 101], .b true, .s [101, 108, 115, 101, 105, 102], .b true, .s [101, 110, 100], .b true, .s [101, 114, 114, 111, 114], .b true, .s [102, 97, 108, 115, 101], .b true, .s [102, 111, 114], .b true, .s [102, 117, 110], .b true, .s [105, 102], .b true, .s [105, 102, 100, 101, 102], .b true, .s [105, 110], .b true, .s [105, 110, 116, 101, 114, 102, 97, 99, 101], .b true, .s [105, 115], .b true, .s [105, 115, 110, 116], .b true, .s [105, 115, 111], .b true, .s [108, 101, 116], .b true, .s [109, 97, 116, 99, 104], .b true, .s [110, 101, 119], .b true, .s [110, 111, 116], .b true, .s [111, 98, 106, 101, 99, 116], .b true, .s [111, 114], .b true, .s [112, 114, 105, 109, 105, 116, 105, 118, 101], .b true, .s [114, 101, 99, 111, 118, 101, 114], .b true, .s [114, 101, 102], .b true, .s [114, 101, 112, 101, 97, 116], .b true, .s [114, 101, 116, 117, 114, 110], .b true, .s [116, 97, 103], .b true, .s [116, 104, 101, 110], .b true, .s [116, 104, 105, 115], .b true, .s [116, 114, 97, 105, 116], .b true, .s [116, 114, 110], .b true, .s [116, 114, 117, 101], .b true, .s [116, 114, 121], .b true, .s [116, 121, 112, 101], .b true, .s [117, 110, 116, 105, 108], .b true, .s [117, 115, 101], .b true, .s [118, 97, 108], .b true, .s [118, 97, 114], .b true, .s [119, 104, 101, 114, 101], .b true, .s [119, 104, 105, 108, 101], .b true, .s [119, 105, 116, 104], .b true, .s [120, 111, 114], .b true], kind := .map }, some { ty := 9, cells := [.s [97, 99, 116, 111, 114], .s [97, 110, 100], .s [97, 115], .s [98, 101], .s [98, 111, 120], .s [98, 114, 101, 97, 107], .s [99, 108, 97, 115, 115], .s [99, 111, 110, 115, 117, 109, 101], .s [99, 111, 110, 116, 105, 110, 117, 101], .s [100, 111], .s [101, 108, 115, 101], .s [101, 108, 115, 101, 105, 102], .s [101, 110, 100], .s [101, 114, 114, 111, 114], .s [102, 97, 108, 115, 101], .s [102, 111, 114], .s [102, 117, 110], .s [105, 102], .s [105, 102, 100, 101, 102], .s [105, 110], .s [105, 110, 116, 101, 114, 102, 97, 99, 101], .s [105, 115], .s [105, 115, 110, 116], .s [105, 115, 111], .s [108, 101, 116], .s [109, 97, 116, 99, 104], .s [110, 101, 119], .s [110, 111, 116], .s [111, 98, 106, 101, 99, 116], .s [111, 114], .s [112, 114, 105, 109, 105, 116, 105, 118, 101], .s [114, 101, 99, 111, 118, 101, 114], .s [114, 101, 102], .s [114, 101, 112, 101, 97, 116], .s [114, 101, 116, 117, 114, 110], .s [116, 97, 103], .s [116, 104, 101, 110], .s [116, 104, 105, 115], .s [116, 114, 97, 105, 116], .s [116, 114, 110], .s [116, 114, 117, 101], .s [116, 114, 121], .s [116, 121, 112, 101], .s [117, 110, 116, 105, 108], .s [117, 115, 101], .s [118, 97, 108], .s [118, 97, 114], .s [119, 104, 101, 114, 101], .s [119, 104, 105, 108, 101], .s [119, 105, 116, 104], .s [120, 111, 114]], kind := .all }]
theorem mapGet_words (s : List UInt8) : ∀ ws : List (List UInt8), mapGet (some .string) (.s s) ((ws.map fun w => [V.s w, V.b true]).flatten) = some (if ws.contains s then some (.b true) else none)
 | [] => rfl
 | w :: ws => by
  simp only [List.map_cons, List.flatten_cons, List.cons_append, List.nil_append, mapGet, sameKey];by_cases h : s = w
  ·subst h; simp
  ·have ih := mapGet_words s ws;have h2 : (s == w) = false := beq_eq_false_iff_ne.2 h;simp [h, h2, ih]
def kwWords : List (List UInt8) := [[97, 99, 116, 111, 114], [97, 110, 100], [97, 115], [98, 101], [98, 111, 120], [98, 114, 101, 97, 107], [99, 108, 97, 115, 115], [99, 111, 110, 115, 117, 109, 101], [99, 111, 110, 116, 105, 110, 117, 101], [100, 111], [101, 108, 115, 101], [101, 108, 115, 101, 105, 102], [101, 110, 100], [101, 114, 114, 111, 114], [102, 97, 108, 115, 101], [102, 111, 114], [102, 117, 110], [105, 102], [105, 102, 100, 101, 102], [105, 110], [105, 110, 116, 101, 114, 102, 97, 99, 101], [105, 115], [105, 115, 110, 116], [105, 115, 111], [108, 101, 116], [109, 97, 116, 99, 104], [110, 101, 119], [110, 111, 116], [111, 98, 106, 101, 99, 116], [111, 114], [112, 114, 105, 109, 105, 116, 105, 118, 101], [114, 101, 99, 111, 118, 101, 114], [114, 101, 102], [114, 101, 112, 101, 97, 116], [114, 101, 116, 117, 114, 110], [116, 97, 103], [116, 104, 101, 110], [116, 104, 105, 115], [116, 114, 97, 105, 116], [116, 114, 110], [116, 114, 117, 101], [116, 114, 121], [116, 121, 112, 101], [117, 110, 116, 105, 108], [117, 115, 101], [118, 97, 108], [118, 97, 114], [119, 104, 101, 114, 101], [119, 104, 105, 108, 101], [119, 105, 116, 104], [120, 111, 114]]
def kw (s : List UInt8) : Bool := kwWords.contains s
theorem EBody.of1 {F : FuncId} {vs : List V} {r : Res} (h : EBody Tryz.prog TT F vs (fun x => x = r)) : Body Tryz.prog TT F vs r := by
 obtain ⟨fn, c, h1, h2, h3, o, ⟨r', rfl, k2⟩, hx⟩ := h;exact ⟨fn, c, h1, h2, h3, o, k2, hx⟩
def kwL : List (List UInt8) := [[97, 99, 116, 111, 114], [97, 110, 100], [97, 115], [98, 101], [98, 111, 120], [98, 114, 101, 97, 107], [99, 108, 97, 115, 115], [99, 111, 110, 115, 117, 109, 101], [99, 111, 110, 116, 105, 110, 117, 101], [100, 111], [101, 108, 115, 101], [101, 108, 115, 101, 105, 102], [101, 110, 100], [101, 114, 114, 111, 114], [102, 97, 108, 115, 101], [102, 111, 114], [102, 117, 110], [105, 102], [105, 102, 100, 101, 102], [105, 110], [105, 110, 116, 101, 114, 102, 97, 99, 101], [105, 115], [105, 115, 110, 116], [105, 115, 111], [108, 101, 116], [109, 97, 116, 99, 104], [110, 101, 119], [110, 111, 116], [111, 98, 106, 101, 99, 116], [111, 114], [112, 114, 105, 109, 105, 116, 105, 118, 101], [114, 101, 99, 111, 118, 101, 114], [114, 101, 102], [114, 101, 112, 101, 97, 116], [114, 101, 116, 117, 114, 110], [116, 97, 103], [116, 104, 101, 110], [116, 104, 105, 115], [116, 114, 97, 105, 116], [116, 114, 110], [116, 114, 117, 101], [116, 114, 121], [116, 121, 112, 101], [117, 110, 116, 105, 108], [117, 115, 101], [118, 97, 108], [118, 97, 114], [119, 104, 101, 114, 101], [119, 104, 105, 108, 101], [119, 105, 116, 104], [120, 111, 114]]
def syL : List (List UInt8) := [[60, 60], [62, 62], [61, 61], [33, 61], [60, 61], [62, 61], [61, 62], [45, 62], [46, 62], [43, 63], [45, 63], [42, 63], [47, 63], [37, 63], [35, 114, 101, 97, 100], [35, 115, 101, 110, 100], [35, 115, 104, 97, 114, 101], [35, 97, 108, 105, 97, 115], [35, 97, 110, 121], [40], [41], [91], [93], [123], [125], [44], [46], [58], [59], [63], [61], [60], [62], [43], [45], [42], [47], [37], [124], [38], [94], [33], [126]]
theorem XBody.is {F : FuncId} {vs : List V} {r : Res} (h : XBody Tryz.prog TT F vs [] (isR r)) : EBody Tryz.prog TT F vs (fun x => x = r) := by
 obtain ⟨fn, c, h1, h2, h3, h4⟩ := h;refine ⟨fn, c, h1, h2, h3, h4.mono fun o ho => ?_⟩;cases o with
 | norm t H => obtain ⟨v, k1, k2⟩ := ho; exact ⟨_, k1.symm, k2⟩
 | ret t H => obtain ⟨v, k1, k2⟩ := ho; exact ⟨_, k1.symm, k2⟩
 | pan v t H => exact ⟨_, Eq.symm ho, rfl⟩
 | exit j t H => exact ho.elim
 | no => exact ho.elim
abbrev sE : E := .f1 .vs (.va 0)
def hdR (L : List UInt8) : Int := match L with
 | [] => 0
 | b :: _ => b.toNat
def digL (base : Int) : List UInt8 → List UInt8 → Bool → Nat × List UInt8
 | [], out, _ => (0, out)
 | b :: L, out, pd => if 0 ≤ digR b.toNat base then ((digL base L (out ++ [b]) true).1 + 1, (digL base L (out ++ [b]) true).2)
  else if b = 95 ∧ out ≠ [] ∧ 0 ≤ digR (hdR L) base ∧ pd = true then ((digL base L out false).1 + 1, (digL base L out false).2)
  else (0, out)
def digB (b : UInt8) : Prop := 48 ≤ b.toNat ∧ b.toNat ≤ 57
def valD : List UInt8 → Nat
 | [] => 0
 | b :: l => (b.toNat - 48) * 10 ^ l.length + valD l
theorem tmod_nat (m k : Nat) : Int.tmod (m : Int) k = ((m % k : Nat) : Int) := by
 rw [Int.tmod_eq_emod_of_nonneg (by omega)]; rfl
def Canon (s : List UInt8) : Prop := (∀ b ∈ s, digB b) ∧ 0 < s.length ∧ (1 < s.length → s.head? ≠ some 48)
def maxS : List UInt8 := [51, 52, 48, 50, 56, 50, 51, 54, 54, 57, 50, 48, 57, 51, 56, 52, 54, 51, 52, 54, 51, 51, 55, 52, 54, 48, 55, 52, 51, 49, 55, 54, 56, 50, 49, 49, 52, 53, 53]
def numF (base : Nat) : List UInt8 → Nat → Nat
 | [], v => v
 | b :: l, v => numF base l (v * base + (digR b.toNat base).toNat)
def signR (s : List UInt8) (k : Nat) : Nat × List UInt8 := if ((atR s k == 43) || (atR s k == 45)) = true then (k + 1, (s.take (k + 1)).drop k) else (k, [])
def expR (s : List UInt8) (e : Nat) (text : List UInt8) (k : Int) : Option (Nat × List UInt8 × Int) := if ((atR s e == 101) || (atR s e == 69)) = true then
    if (digL 10 (s.drop (signR s (e + 1)).1) [] false).2 = [] then none else some ((signR s (e + 1)).1 + (digL 10 (s.drop (signR s (e + 1)).1) [] false).1, text ++ 101 :: ((signR s (e + 1)).2 ++ (digL 10 (s.drop (signR s (e + 1)).1) [] false).2), 4)
  else some (e, text, k)
theorem atR_in {s : List UInt8} {i : Nat} (h : atR s i ≠ 0) : i < s.length := by
 unfold atR at h;by_cases hi : i < s.length
 ·exact hi
 ·rw [List.getElem?_eq_none (by omega)] at h;exact absurd rfl h
def fracR (s : List UInt8) (e : Nat) (d : List UInt8) : Nat × List UInt8 × Int := if ((atR s e == 46) && decide (0 ≤ digR (atR s (e + 1)) 10)) = true then (e + 1 + (digL 10 (s.drop (e + 1)) [] false).1, d ++ 46 :: (digL 10 (s.drop (e + 1)) [] false).2, 4) else (e, d, 3)
def restR (s : List UInt8) (e : Nat) (d : List UInt8) : Option (Nat × List UInt8 × Int) := expR s (fracR s e d).1 (fracR s e d).2.1 (fracR s e d).2.2
def tokV (k : Int) (t : List UInt8) : V := .agg [.i .i64 k, .s t, .i .i64 0, .b false]
def errV : V := .tup [tokV 0 [], .i .i64 0, .i .i64 33]
def okV (k : Int) (t : List UInt8) (e : Nat) : V := .tup [tokV k t, .i .i64 e, .i .i64 0]
def NumEnd (s d : List UInt8) (base e : Nat) (text : List UInt8) (k : Int) (v : V) : Prop :=
 (((d == []) || worR (atR s e)) = true ∧ v = errV) ∨ (((d == []) || worR (atR s e)) = false ∧ ((k = 4 ∧ v = okV 4 text e) ∨ (k = 3 ∧ ((∃ o, Canon o ∧ valD o = numF base d 0 ∧ numF base d 0 ≤ valD maxS ∧ v = okV 3 o e) ∨ (valD maxS < numF base d 0 ∧ v = errV)))))
def NumR (s : List UInt8) (i : Nat) (v : V) : Prop :=
 if begR s i [48, 120] = true then NumEnd s (digL 16 (s.drop (i + 2)) [] false).2 16 (i + 2 + (digL 16 (s.drop (i + 2)) [] false).1) (digL 16 (s.drop (i + 2)) [] false).2 3 v
 else if begR s i [48, 98] = true then NumEnd s (digL 2 (s.drop (i + 2)) [] false).2 2 (i + 2 + (digL 2 (s.drop (i + 2)) [] false).1) (digL 2 (s.drop (i + 2)) [] false).2 3 v
 else (restR s (i + (digL 10 (s.drop i) [] false).1) (digL 10 (s.drop i) [] false).2 = none ∧ v = errV) ∨ ∃ e' t' k', restR s (i + (digL 10 (s.drop i) [] false).1) (digL 10 (s.drop i) [] false).2 = some (e', t', k') ∧ NumEnd s (digL 10 (s.drop i) [] false).2 10 e' t' k' v
theorem begR_len {s : List UInt8} {i : Nat} {t : List UInt8} (h : begR s i t = true) : i + t.length ≤ s.length := by
 simp only [begR, Bool.and_eq_true, decide_eq_true_eq] at h;exact h.1
def lnL : List UInt8 → Nat
 | [] => 0
 | b :: l => if (b == 10) = true then 0 else lnL l + 1
def cmF (s : List UInt8) : Nat → Nat → Nat → Bool → Bool × Nat × Bool
 | 0, i, _, l => (false, i, l)
 | n + 1, i, d, l => if d = 0 then (true, i, l) else if s.length ≤ i then (false, i, l)
  else if begR s i [47, 42] = true then cmF s n (i + 2) (d + 1) l
  else if begR s i [42, 47] = true then cmF s n (i + 2) (d - 1) l
  else cmF s n (i + 1) d (l || (atR s i == 10))
def cutR (s : List UInt8) (i j : Nat) : List UInt8 := (s.take j).drop i
def blkF (s : List UInt8) : Nat → Nat → Bool → Nat × Bool × Int
  | 0, i, l => (i, l, -1)
  | n + 1, i, l => if s.length ≤ i then (i, l, -1)
    else if ((atR s i == 10) : Bool) = true then blkF s n (i + 1) true
    else if (((atR s i == 32) || (atR s i == 9)) || (atR s i == 13)) = true then blkF s n (i + 1) l
    else if begR s i [47, 47] = true then (if Lib.validD (cutR s i (i + lnL (s.drop i))) = true then blkF s n (i + lnL (s.drop i)) l else (i, l, i))
    else if begR s i [47, 42] = true then (if (cmF s (s.length + 1) (i + 2) 1 l).1 = true then
        (if Lib.validD (cutR s i (cmF s (s.length + 1) (i + 2) 1 l).2.1) = true then blkF s n (cmF s (s.length + 1) (i + 2) 1 l).2.1 (cmF s (s.length + 1) (i + 2) 1 l).2.2 else (i, (cmF s (s.length + 1) (i + 2) 1 l).2.2, i))
      else (i, (cmF s (s.length + 1) (i + 2) 1 l).2.2, i))
    else (i, l, -1)
theorem lnL_pos {s : List UInt8} {i : Nat} (h : begR s i [47, 47] = true) : 0 < lnL (s.drop i) := by
 have h1 := begR_len h;simp only [begR, Bool.and_eq_true, beq_iff_eq, List.length_cons, List.length_nil] at h h1;have h2 := h.2;have h3 : i < s.length := by omega
 have h4 : ((s.take (i + 2)).drop i)[0]? = some 47 := by rw [h2]; rfl
 rw [List.getElem?_drop, List.getElem?_take_of_lt (by omega)] at h4;rw [List.drop_eq_getElem_cons h3];have h5 : s[i] = 47 := by
  have := List.getElem?_eq_getElem h3;simp only [Nat.add_zero] at h4;rw [this] at h4;exact Option.some.inj h4
 simp [lnL, h5]
section
variable {call : CallF} (hC : call.Sound Tryz.prog TT) (s : List UInt8) (hsl : s.length < 100000000) (hbg : ∀ (i : Nat) (a b : UInt8), i < 100000000 → ∀ H, call 56 [.s s, .i .i64 i, .s [a, b]] H = .val (.b (begR s i [a, b])) H) (hvd : ∀ x : List UInt8, x.length < 100000000 → ∀ H, call 36 [.s x] H = .val (.b (Lib.validD x)) H)
include hC hsl hvd in
include hC hsl hbg hvd in
include hC hsl hbg hvd in
include hC hsl hbg hvd in
end
theorem sp33v : ∃ g, SpecOK Tryz.prog TT 36 g ∧ ∀ s : List UInt8, s.length < 100000000 → ∀ H, g [.s s] H = .val (.b (Lib.validD s)) H := ⟨spValid, ok33, fun s hs H => by
 have : s.length < 4294967281 := by omega
 simp only [spValid];rw [if_pos this]⟩
def rawF (s : List UInt8) : Nat → Nat → Option Nat
 | 0, _ => none
 | n + 1, k => if k + 3 ≤ s.length then (if ((s.take (k + 3)).drop k == [34, 34, 34]) = true then some k else rawF s n (k + 1)) else none
def quoF (s : List UInt8) (esc : Nat → Option (List UInt8 × Nat)) (mk : Int) : Nat → Nat → List UInt8 → Option (List UInt8 × Nat)
 | 0, _, _ => none
 | n + 1, i, out => if s.length ≤ i then none else if ((atR s i == 10) : Bool) = true then none
  else if ((atR s i == mk) : Bool) = true then some (out, i + 1)
  else if ((atR s i == 92) : Bool) = true then (match esc i with | some p => quoF s esc mk n p.2 (out ++ p.1) | none => none)
  else quoF s esc mk n (i + 1) (out ++ (s.take (i + 1)).drop i)
def quoP : Option (List UInt8 × Nat) → List UInt8 × Nat × Bool
 | some p => (p.1, p.2, Lib.validD p.1)
 | none => ([], 0, false)
def escL (c : Int) (ok : Bool) : List UInt8 → List UInt8 → Option (List UInt8)
 | x :: xs, y :: ys => if ((c == (x.toNat : Int)) && ok) = true then some [y] else escL c ok xs ys
 | _, _ => none
def hexF (s : List UInt8) (i : Nat) : Nat → Nat → Int → Option Int
 | 0, _, n => some n
 | m + 1, k, n => if digR (atR s (i + 2 + k)) 16 < 0 then none else hexF s i m (k + 1) (n * 16 + digR (atR s (i + 2 + k)) 16)
def escT (i m : Nat) (v : Int) : Option (List UInt8 × Nat) :=
 if ((((((m : Int) == 0) || (((m : Int) == 2) && decide (127 < v))) || decide (1114111 < v))) || (decide (55296 ≤ v) && decide (v < 57344))) = true then none else some (runesS [v], i + 2 + m)
def manyR (c : Int) : Nat := if (c == 120) = true then 2 else if (c == 117) = true then 4 else if (c == 85) = true then 6 else 0
def escN : List UInt8 := [110, 116, 114, 48, 92, 34, 39]
def escB : List UInt8 := [10, 9, 13, 0, 92, 34, 39]
def escR (s : List UInt8) (i : Nat) : Option (List UInt8 × Nat) :=
 match escL (atR s (i + 1)) (decide ((i : Int) + 1 < s.length)) escN escB with
 | some t => some (t, i + 2)
 | none => match hexF s i (manyR (atR s (i + 1))) 0 0 with
  | none => none
  | some v => escT i (manyR (atR s (i + 1))) v
section
variable {call : CallF} (hC : call.Sound Tryz.prog TT) (s : List UInt8) (i : Nat) (hi : i < 1000000000) (c2 : ∀ (j : Nat) H, call 64 [.s s, .i .i64 j] H = .val (.i .u8 (atR s j)) H) (c3 : ∀ c : Int, 0 ≤ c → c < 256 → ∀ H, call 57 [.i .u8 c, .i .i64 16] H = .val (.i .i64 (digR c 16)) H)
include hC hi c2 c3 in
include hC hi c2 c3 in
include hC hi c2 c3 in
end
end Go.Ev
-- no T33
namespace Go.Ev
open Go Go.Proofs
set_option maxRecDepth 1000000
set_option linter.unusedVariables false
theorem runesS_le (v : Int) : (runesS [v]).length ≤ 4 := by
 have h := foldl_size_le [v] ByteArray.empty;have e : (runesS [v]).length = (([v] : List Int).foldl (fun r n => r ++ Utf8.encode n) ByteArray.empty).size := by
  unfold runesS;rw [Array.length_toList];rfl
 rw [e];exact h
def quoR (s : List UInt8) (mk : Int) (i : Nat) : Option (List UInt8 × Nat) := quoF s (escR s) mk (s.length + 1) (i + 1) []
end Go.Ev
namespace Go.Proofs
def Tryz.laysM171_ren : Go.Shelf.Ren := ⟨fun | 171 => 61 | 243 => 86 | 246 => 104 | 283 => 117 | 284 => 118 | 285 => 119 | 286 => 120 | 129 => 129 | 317 => 128 | 318 => 130 | 319 => 131 | 320 => 132 | 337 => 139 | 338 => 140 | n => n, fun | 3 => 3 | 9 => 9 | 2 => 2 | 4 => 4 | 171 => 174 | 0 => 0 | 53 => 119 | 37 => 64 | 5 => 5 | 173 => 177 | 212 => 196 | 51 => 125 | 20 => 20 | 213 => 197 | 46 => 72 | 232 => 225 | 233 => 226 | n => n, fun | 17 => 8 | 18 => 9 | 19 => 10 | n => n⟩
theorem Tryz.laysM171 : Go.Proofs.LaysM.n171 Tryz.prog Tryz.laysM171_ren := {
 mixed := by kernel_rfl
 f129 := Tryz.func129.trans (congrArg some (by kernel_rfl))
 f171 := Tryz.func61.trans (congrArg some (by kernel_rfl))
 f243 := Tryz.func86.trans (congrArg some (by kernel_rfl))
 f246 := Tryz.func104.trans (congrArg some (by kernel_rfl))
 f283 := Tryz.func117.trans (congrArg some (by kernel_rfl))
 f284 := Tryz.func118.trans (congrArg some (by kernel_rfl))
 f285 := Tryz.func119.trans (congrArg some (by kernel_rfl))
 f286 := Tryz.func120.trans (congrArg some (by kernel_rfl))
 f317 := Tryz.func128.trans (congrArg some (by kernel_rfl))
 f318 := Tryz.func130.trans (congrArg some (by kernel_rfl))
 f319 := Tryz.func131.trans (congrArg some (by kernel_rfl))
 f320 := Tryz.func132.trans (congrArg some (by kernel_rfl))
 f337 := Tryz.func139.trans (congrArg some (by kernel_rfl))
 f338 := Tryz.func140.trans (congrArg some (by kernel_rfl))
 t0 := Tryz.underlying0
 a0 := Tryz.isAgg0
 z0 := Tryz.sizeOf0
 v0 := Tryz.zeroValue0
 t2 := Tryz.underlying2
 a2 := Tryz.isAgg2
 z2 := Tryz.sizeOf2
 v2 := Tryz.zeroValue2
 t3 := Tryz.underlying3
 a3 := Tryz.isAgg3
 z3 := Tryz.sizeOf3
 v3 := Tryz.zeroValue3
 t4 := Tryz.underlying4
 a4 := Tryz.isAgg4
 z4 := Tryz.sizeOf4
 v4 := Tryz.zeroValue4
 t5 := Tryz.underlying5
 a5 := Tryz.isAgg5
 z5 := Tryz.sizeOf5
 v5 := Tryz.zeroValue5
 t9 := Tryz.underlying9
 a9 := Tryz.isAgg9
 z9 := Tryz.sizeOf9
 v9 := Tryz.zeroValue9
 t20 := Tryz.underlying20
 a20 := Tryz.isAgg20
 z20 := Tryz.sizeOf20
 v20 := Tryz.zeroValue20
 t37 := Tryz.underlying64
 a37 := Tryz.isAgg64
 z37 := Tryz.sizeOf64
 v37 := Tryz.zeroValue64
 t46 := Tryz.underlying72
 a46 := Tryz.isAgg72
 z46 := Tryz.sizeOf72
 v46 := Tryz.zeroValue72
 t51 := Tryz.underlying125
 a51 := Tryz.isAgg125
 z51 := Tryz.sizeOf125
 v51 := Tryz.zeroValue125
 t53 := Tryz.underlying119
 a53 := Tryz.isAgg119
 z53 := Tryz.sizeOf119
 v53 := Tryz.zeroValue119
 t171 := Tryz.underlying174
 a171 := Tryz.isAgg174
 z171 := Tryz.sizeOf174
 v171 := Tryz.zeroValue174
 t173 := Tryz.underlying177
 a173 := Tryz.isAgg177
 z173 := Tryz.sizeOf177
 v173 := Tryz.zeroValue177
 t212 := Tryz.underlying196
 a212 := Tryz.isAgg196
 z212 := Tryz.sizeOf196
 v212 := Tryz.zeroValue196
 t213 := Tryz.underlying197
 a213 := Tryz.isAgg197
 z213 := Tryz.sizeOf197
 t232 := Tryz.underlying225
 a232 := Tryz.isAgg225
 z232 := Tryz.sizeOf225
 v232 := Tryz.zeroValue225
 t233 := Tryz.underlying226
 a233 := Tryz.isAgg226
 z233 := Tryz.sizeOf226
 v233 := Tryz.zeroValue226
 g17 := by kernel_rfl
 g18 := by kernel_rfl
 g19 := by kernel_rfl
 i0 := by kernel_rfl
 i2 := by kernel_rfl
 i3 := by kernel_rfl
 i4 := by kernel_rfl
 i5 := by kernel_rfl
 i9 := by kernel_rfl
 i20 := by kernel_rfl
 i37 := by kernel_rfl
 i46 := by kernel_rfl
 i51 := by kernel_rfl
 i53 := by kernel_rfl
 i171 := by kernel_rfl
 i173 := by kernel_rfl
 i212 := by kernel_rfl
 i232 := by kernel_rfl
 i233 := by kernel_rfl
 m17 := by kernel_rfl
 m18 := by kernel_rfl
 m19 := by kernel_rfl }
end Go.Proofs
namespace Go.Ev
open Go Go.Proofs
open Go.RowKit (Below)
set_option maxRecDepth 100000
def spItoa : List V → Heap → OR
 | [.i .i64 n], H => if -9223372036854775808 ≤ n ∧ n ≤ 9223372036854775807 then .val (.s (Lib.itoa n)) H else .no
 | _, _ => .no
theorem tabIs_of_sr {M : Mem} {ρ : Ren} {H : Heap} {w : World} (hS : SR TT M ρ H w) : Lib.TabIs Tryz.prog w "internal/strconv.uint64pow10" .u64 Lib.pow10Tab := by
  obtain ⟨cs, ty, fr, hM, hr⟩ := hS.glob 8 _ rfl
  have hw := hS.frozen _ _ hM
  have hg : Tryz.prog.globalNamed "internal/strconv.uint64pow10" = some 8 := by kernel_rfl
  unfold Lib.TabIs World.var?
  rw [hg]
  simp only [Option.bind_some, hw]
  congr 2
  have key : ∀ (l : List Int) (cs : List Value), relL M ρ (l.map fun z => V.i .u64 z) cs → cs = l.map fun z => Value.int .u64 z := by
    intro l
    induction l with
    | nil => intro cs h; simpa [relL] using h
    | cons z l ih =>
      intro cs h
      simp only [List.map_cons, relL, rel] at h
      obtain ⟨x, r, rfl, rfl, hr⟩ := h
      rw [ih r hr]
      rfl
  refine key Lib.pow10Tab cs ?_
  have e : (Lib.pow10Tab.map fun z => V.i .u64 z) = ((List.range 20).map fun i => V.i .u64 ((10 ^ i : Nat) : Int)) := by
    simp only [Lib.pow10Tab, List.map_map]
    rfl
  rw [e]
  exact hr
theorem ok149 : SpecOK Tryz.prog TT 61 spItoa := by
 intro vs H r h hne;unfold spItoa at h;split at h
 ·rename_i H n;split at h
  ·rename_i hc;subst h;refine ⟨enters_tz (f := 61) rfl rfl, fun M ρ w args hS hr => ?_⟩;have ha : args = [.int .i64 n] := by
    simp only [relL, rel] at hr;obtain ⟨x, r, rfl, rfl, rfl⟩ := hr; rfl
   rw [ha];refine callOK_below (x := .string ⟨(Lib.itoa n).toArray⟩) hS ?_ (by simp only [rel]);refine (Any.strconv_Itoa Tryz.laysM171 n hc.1 hc.2 w (tabIs_of_sr hS)).mono ?_;rintro e w' ⟨rfl, k, os, rfl⟩;exact ⟨rfl, rfl, rfl, rfl, by simp [Sort.grow, World.drewN], fun j hj => by simp only [Sort.grow, World.drewN]; rw [Array.getElem?_append_left hj]⟩
  ·exact absurd h.symm hne
 ·exact absurd h.symm hne
end Go.Ev
namespace Go.Ev
open Go Go.Proofs
set_option linter.unusedSimpArgs false
set_option linter.unusedVariables false
set_option linter.unnecessarySimpa false
set_option maxRecDepth 1000000
def lastB (x : List UInt8) : Int := match x.getLast? with | some b => b.toNat | none => 0
def okS (s : List UInt8) (i : Nat) (best x : List UInt8) : Bool := decide (best.length < x.length) && (begR s i x && (!(letR (lastB x)) || !(worR (atR s (i + x.length)))))
def symF (s : List UInt8) (i : Nat) : List (List UInt8) → List UInt8 → List UInt8
 | [], best => best
 | x :: l, best => symF s i l (if okS s i best x = true then x else best)
def oneV (k : Int) (t : List UInt8) (e : Int) : V := .tup [tokV k t, .i .i64 e, .i .i64 0]
def oneE (c : Int) : V := .tup [tokV 0 [], .i .i64 0, .i .i64 c]
theorem idR_le {s : List UInt8} {i : Nat} (h : i ≤ s.length) : i ≤ idR s i ∧ idR s i ≤ s.length := by
 unfold idR;split
 ·exact ⟨Nat.le_refl _, h⟩
 ·have h1 := runW_le (s.drop i);have h2 := runQ_le (s.drop (i + runW (s.drop i)));simp only [List.length_drop] at h1 h2;omega
def rawP (s : List UInt8) (i : Nat) : List UInt8 × Nat × Bool := match rawF s (s.length + 1) (i + 3) with
 | none => ([], 0, false)
 | some k => (cutR s (i + 3) k, k + 3, Lib.validD (cutR s (i + 3) k))
def strR (p : List UInt8 × Nat × Bool) : V := if p.2.2 = true then oneV 5 p.1 p.2.1 else oneE 31
def chrR (p : List UInt8 × Nat × Bool) : V := if p.2.2 = true then (match runesV p.1 with
 | [.i .i32 r] => oneV 3 (Lib.itoa (IntKind.i64.wrap r)) p.2.1
 | _ => oneE 31) else oneE 31
def symR (s : List UInt8) (i : Nat) : V := if (symF s i syL [] == []) = true then oneE 30 else oneV 6 (symF s i syL []) ((i : Int) + (symF s i syL []).length)
def OneR (s : List UInt8) (i : Nat) (v : V) : Prop :=
 if i < idR s i then v = oneV (if (kwL.any fun x => x == (s.take (idR s i)).drop i) = true then 2 else 1) ((s.take (idR s i)).drop i) (idR s i)
 else if 0 ≤ digR (atR s i) 10 then NumR s i v
 else if begR s i [34, 34, 34] = true then v = strR (rawP s i)
 else if ((atR s i == 34) : Bool) = true then v = strR (quoP (quoR s 34 i))
 else if ((atR s i == 39) : Bool) = true then v = chrR (quoP (quoR s 39 i))
 else v = symR s i
abbrev Tk := Int × List UInt8 × Int × Bool
def tkL (x : Tk) : List V := [.i .i64 x.1, .s x.2.1, .i .i64 x.2.2.1, .b x.2.2.2]
def tkC (l : List Tk) : List V := l.flatMap tkL
theorem tkC_length (l : List Tk) : (tkC l).length = l.length * 4 := by
 induction l with
 | nil => rfl
 | cons x l ih => simp only [tkC, List.flatMap_cons, List.length_append, List.length_cons] at ih ⊢; rw [ih]; simp [tkL]; omega
theorem tkC_snoc (l : List Tk) (x : Tk) : tkC (l ++ [x]) = tkC l ++ tkL x := by simp [tkC]
def OutAt (H : Heap) (v : V) (l : List Tk) : Prop := ∃ (n : Nat) (cap : Option Nat) (kd : BK), v = .sl n 4 0 l.length cap ∧ H[n]? = some (some { ty := 44, cells := tkC l, kind := kd }) ∧ kd ≠ .map ∧ ((cap = some 0 ∧ l = []) ∨ cap = none)
inductive ScanS (s : List UInt8) : Nat → List Tk → (List Tk ⊕ (Int × Int)) → Prop
  | opn {i : Nat} {l : List Tk} (h : 0 ≤ (blkF s (s.length + 1) i false).2.2) : ScanS s i l (.inr ((blkF s (s.length + 1) i false).2.2, 32))
  | done {i : Nat} {l : List Tk} (h : ¬ 0 ≤ (blkF s (s.length + 1) i false).2.2) (h2 : (blkF s (s.length + 1) i false).1 = s.length) : ScanS s i l (.inl l)
  | bad {i : Nat} {l : List Tk} {c : Int} (h : ¬ 0 ≤ (blkF s (s.length + 1) i false).2.2) (h2 : (blkF s (s.length + 1) i false).1 < s.length) (hc : c ≠ 0) (hv : OneR s (blkF s (s.length + 1) i false).1 (oneE c)) : ScanS s i l (.inr (((blkF s (s.length + 1) i false).1 : Nat), c))
  | step {i e : Nat} {l : List Tk} {k : Int} {t : List UInt8} {r : List Tk ⊕ (Int × Int)} (h : ¬ 0 ≤ (blkF s (s.length + 1) i false).2.2) (h2 : (blkF s (s.length + 1) i false).1 < s.length) (hv : OneR s (blkF s (s.length + 1) i false).1 (oneV k t e)) (h3 : (blkF s (s.length + 1) i false).1 < e) (h4 : e ≤ s.length) (hr : ScanS s e (l ++ [(k, t, (((blkF s (s.length + 1) i false).1 : Nat) : Int), (blkF s (s.length + 1) i false).2.1 || ((l.length : Int) == 0))]) r) : ScanS s i l r
theorem OutAt.ext {H : Heap} {v : V} {l : List Tk} (h : OutAt H v l) (K : Heap) : OutAt (H ++ K) v l := by
 obtain ⟨n, cap, kd, rfl, hn, hk, hcap⟩ := h;exact ⟨n, cap, kd, rfl, by rw [List.getElem?_append_left (List.getElem?_eq_some_iff.1 hn).1]; exact hn, hk, hcap⟩
theorem OutAt.len {H : Heap} {v : V} {l : List Tk} (h : OutAt H v l) : evLen TT 27 v = some (.i .i64 l.length) := by
 obtain ⟨n, cap, kd, rfl, hn, hk, hcap⟩ := h;have e1 : TT.und 27 = some (.slice 44) := rfl;simp only [evLen, e1]
theorem rowsOf_tk : ∀ l : List Tk, rowsOf 4 l.length (tkC l) = some (l.map fun x => V.agg (tkL x))
 | [] => rfl
 | x :: l => by
  have ih := rowsOf_tk l;simp only [tkC] at ih;simp [rowsOf, tkC, tkL, ih]
theorem fzL_tk {H : Heap} : ∀ (l : List Tk) (n : Nat), 4 * l.length + 5 ≤ n → fzL H n (tkC l) = some (tkC l)
 | [], n, h => by cases n <;> simp [tkC, Ev.fzL]
 | x :: l, n, h => by
  obtain ⟨m, rfl⟩ : ∃ m, n = m + 5 := ⟨n - 5, by simp only [List.length_cons] at h; omega⟩;have ih := fzL_tk (H := H) l (m + 1) (by simp only [List.length_cons] at h; omega);have e : tkC (x :: l) = .i .i64 x.1 :: .s x.2.1 :: .i .i64 x.2.2.1 :: .b x.2.2.2 :: tkC l := by simp [tkC, tkL]
  rw [e];simp [Ev.fzL, fz, ih]
theorem digN_cases (c : Int) : (48 ≤ c ∧ c ≤ 57 ∧ digN c = c - 48) ∨ (¬ (48 ≤ c ∧ c ≤ 57) ∧ (10 ≤ digN c ∨ digN c = -1)) := by
 unfold digN;by_cases h : 48 ≤ c ∧ c ≤ 57
 ·rw [if_pos h]; exact .inl ⟨h.1, h.2, rfl⟩
 ·rw [if_neg h];refine .inr ⟨h, ?_⟩;by_cases h2 : 97 ≤ c ∧ c ≤ 102
  ·rw [if_pos h2]; omega
  ·rw [if_neg h2];by_cases h3 : 65 ≤ c ∧ c ≤ 70
   ·rw [if_pos h3]; omega
   ·rw [if_neg h3]; omega
theorem digR10 (b : UInt8) : 0 ≤ digR b.toNat 10 ↔ digB b := by
 unfold digR digB;rcases digN_cases b.toNat with ⟨h1, h2, h3⟩ | ⟨h1, h2⟩
 ·rw [h3, if_neg (by omega)]; omega
 ·rcases h2 with h2 | h2
  ·rw [if_pos h2]; omega
  ·rw [h2, if_neg (by omega)]; omega
def Stop (l : List UInt8) : Prop := ∀ b, l.head? = some b → ¬ digB b ∧ b ≠ 95
theorem EBody.of2 {F : FuncId} {vs : List V} {r : Res} (h : EBody Tryz.prog TT F vs (fun x => x = r)) : Body Tryz.prog TT F vs r := by
 obtain ⟨fn, c, h1, h2, h3, o, ⟨r', rfl, k2⟩, hx⟩ := h;exact ⟨fn, c, h1, h2, h3, o, k2, hx⟩
theorem spT (F : FuncId) (val : List UInt8 → V) (D : List UInt8 → Prop) (hv : ∀ x, nl (val x) = true) (h : ∀ x, D x → EBody Tryz.prog TT F [.s x] (fun r => r = .val (val x))) : ∃ g, SpecOK Tryz.prog TT F g ∧ ∀ x, D x → ∀ H, g [.s x] H = .val (val x) H :=
 spec_val TT_ok TT_plain F (fun x : List UInt8 => [.s x]) D val (fun x _ => by simp [nlL, nl]) hv (fun a b h => by
 simp only [List.cons.injEq, V.s.injEq, and_true] at h; rw [h]) fun x hx => EBody.of2 (h x hx)
theorem sp83p : ∃ g, SpecOK Tryz.prog TT 72 g ∧ ∀ c : Int, True → ∀ H, g [.i .u8 c] H = .val (.b (letR c || (c == 95))) H :=
 spec_val TT_ok TT_plain 72 (fun c : Int => [.i .u8 c]) (fun _ => True) (fun c => .b (letR c || (c == 95))) (fun x _ => by simp [nlL, nl]) (fun _ => rfl) (fun a b h => by simp only [List.cons.injEq, V.i.injEq, true_and, and_true] at h; rw [h]) fun c _ => body_83 n0 c
theorem sp99p : ∃ g, SpecOK Tryz.prog TT 50 g ∧ ∀ c : Int, True → ∀ H, g [.i .u8 c] H = .val (.b (decide (48 ≤ c) && decide (c ≤ 57))) H :=
 spec_val TT_ok TT_plain 50 (fun c : Int => [.i .u8 c]) (fun _ => True) (fun c => .b (decide (48 ≤ c) && decide (c ≤ 57))) (fun x _ => by simp [nlL, nl]) (fun _ => rfl) (fun a b h => by simp only [List.cons.injEq, V.i.injEq, true_and, and_true] at h; rw [h]) fun c _ => body_99 n0 c
theorem worR_eq (b : UInt8) : worR b.toNat = ((letR b.toNat || ((b.toNat : Int) == 95)) || (decide (48 ≤ (b.toNat : Int)) && decide ((b.toNat : Int) ≤ 57))) := by
 have e : decide (0 ≤ digR b.toNat 10) = (decide (48 ≤ (b.toNat : Int)) && decide ((b.toNat : Int) ≤ 57)) := by
  rw [Bool.eq_iff_iff];simp only [Bool.and_eq_true, decide_eq_true_eq];rw [digR10];unfold digB;omega
 unfold worR;rw [e];cases letR b.toNat <;> cases ((b.toNat : Int) == 95) <;> simp
theorem sp84p : ∃ g, SpecOK Tryz.prog TT 73 g ∧ ∀ b : UInt8, True → ∀ H, g [.i .u8 b.toNat] H = .val (.b (worR b.toNat)) H := by
 obtain ⟨g3, hg3, hs3⟩ := sp83p;obtain ⟨g9, hg9, hs9⟩ := sp99p;refine spec_val TT_ok TT_plain 73 (fun b : UInt8 => [.i .u8 b.toNat]) (fun _ => True) (fun b => .b (worR b.toNat)) (fun x _ => by simp [nlL, nl]) (fun _ => rfl) (fun a b h => by
  simp only [List.cons.injEq, V.i.injEq, true_and, and_true] at h; rw [h]) fun c _ => ?_
 rw [worR_eq];exact body_84 (ws (ws n0 hg3) hg9) c.toNat _ _ (fun H => by rw [w_other _ _ _ _ rfl, w_here]; exact hs3 _ trivial H) (fun H => by rw [w_here]; exact hs9 _ trivial H)
theorem sp71p : ∃ g, SpecOK Tryz.prog TT 49 g ∧ ∀ s : List UInt8, s.length < NT → ∀ H, g [.s s] H = .val (.i .i64 (idR s 0 : Nat)) H := by
 obtain ⟨g3, hg3, hs3⟩ := sp83p;obtain ⟨g4, hg4, hs4⟩ := sp84p;refine spT 49 (fun s => .i .i64 (idR s 0 : Nat)) (fun s => s.length < NT) (fun _ => rfl) fun s hs => ?_;have hN : NT = 1090000 := rfl;have hC := ws (ws n0 hg3) hg4;cases s with
 | nil => exact body_71pn hC
 | cons c r =>
  have h83 : ∀ H, ((CallF.none.with 72 g3).with 73 g4) 72 [.i .u8 c.toNat] H = .val (.b (letR c.toNat || ((c.toNat : Int) == 95))) H := fun H => by rw [w_other _ _ _ _ rfl, w_here]; exact hs3 _ trivial H
  have hat : atR (c :: r) 0 = c.toNat := rfl;cases hl : (letR c.toNat || ((c.toNat : Int) == 95)) with
  | false =>
   have e : idR (c :: r) 0 = 0 := by
    unfold idR;rw [hat, if_pos];rw [Bool.or_eq_false_iff] at hl;simp only [Bool.and_eq_true, Bool.not_eq_true', bne_iff_ne];exact ⟨hl.1, by have := hl.2; rw [beq_eq_false_iff_ne] at this; exact this⟩
   rw [e];exact body_71pf hC c r fun H => by rw [h83, hl]
  | true =>
   have hw : worR c.toNat = true := by rw [worR_eq, hl]; rfl
   have e : idR (c :: r) 0 = 1 + runW r + runQ (r.drop (runW r)) := by
    unfold idR;rw [hat, if_neg]
    ·simp only [List.drop_zero, Nat.zero_add];have e2 : runW (c :: r) = runW r + 1 := by simp only [runW, hw, if_true]
     rw [e2, List.drop_succ_cons];omega
    ·intro h;simp only [Bool.and_eq_true, Bool.not_eq_true', bne_iff_ne] at h;rw [h.1, Bool.false_or, beq_iff_eq] at hl;exact h.2 hl
   rw [e];exact body_71pt hC c r (by simp at hs ⊢; omega) (fun b H => by rw [w_here]; exact hs4 b trivial H) fun H => by rw [h83, hl]
def fltV (e at_ : Int) : V := .ifc 50 (.agg [.i .i64 e, .i .i64 at_])
section
variable {P : Program} {T : Tab} {t t' : Tm} {H H' : Heap} {Q : Out → Prop} {v : V}
theorem Tri.regP (hT : TOk P T) {call : CallF} (hC : call.Sound P T) {id : Nat} {ops : Array Oper} {d : Bool} (he : evReg T call ops d t H = .pan v t' H') (h : Q (.pan v t' H')) : Tri P T (.region id ops d) t H Q := Tri.reg hT hC he h
theorem evSeq_panG {step : Oper → Env → Heap → OR} {ops : Array Oper} {o : Oper} {r : List Oper} {x : OR} {out : Out} (hw : wants ops o t.get = some true) (hs : step o t.get H = x) (hx : x = .pan v H') (ho : Out.pan v t H' = out) : evSeq step ops (o :: r) t H = out := (evSeq_pan hw (hs.trans hx)).trans ho
theorem endsP {T : Tab} {fn : Func} {R : Res → Prop} (hr : R (.pan v)) : ∃ r, R r ∧ Ends T fn r (.pan v t H) := ⟨_, hr, rfl⟩
theorem endsEN {fn : Func} {x : OR} {R : Res → Prop} (hf : finish TT fn t.get H = x) (hx : x = .val v H) (hr : R (.val v)) : ∃ r, R r ∧ Ends TT fn r (.norm t H) := ⟨_, hr, hf.trans hx⟩
end
attribute [simp] fltV evAssert eq1 eqFs
theorem body_2055t {call : CallF} (hC : call.Sound Tryz.prog TT) (e k : Int)  : EBody Tryz.prog TT 55 [.b true, .i .i64 e, .i .i64 k] (fun r => r = .val .un) := by
 refine en Tryz.f55 rfl rfl (by simp [Tryz.f55]) 12 rfl fun t hw hg => ?_;have h0 := hg 0 _ rfl;have h1 := hg 1 _ rfl;have h2 := hg 2 _ rfl;clear hg;try simp only [Nd.enc_eq] at *
 have hF := ai @h0 (ai @h1 @h2);apply rS hC
 ·iterate 2 refine oA ?_
  rfl
 refine cF (by simp [hF] <;> rfl) ?_;apply Tri.skip;refine endsEN (by simp [Tryz.f55] <;> rfl) (by rfl) ?_;rfl
theorem body_2055f {call : CallF} (hC : call.Sound Tryz.prog TT) (e k : Int)  : EBody Tryz.prog TT 55 [.b false, .i .i64 e, .i .i64 k] (fun r => r = .pan (fltV e k)) := by
 refine en Tryz.f55 rfl rfl (by simp [Tryz.f55]) 12 rfl fun t hw hg => ?_;have h0 := hg 0 _ rfl;have h1 := hg 1 _ rfl;have h2 := hg 2 _ rfl;clear hg;try simp only [Nd.enc_eq] at *
 have hF := ai @h0 (ai @h1 @h2);apply rS hC
 ·iterate 2 refine oA ?_
  rfl
 refine cT (by simp [hF] <;> rfl) ?_;refine Tri.regP (v := ?v3) (t' := ?t3) (H' := ?H3) TT_ok hC ?e3 ?q3;case e3 =>
  refine go_false ?_;iterate 4 refine oA ?_
  refine evSeq_panG rfl (by simp [hF] <;> rfl) (by rfl) ?_;exact rfl
 refine endsP ?_;rfl
def valN (c : Int) : Int := if digN c = -1 then 99 else digN c
theorem tab2094 : ([2, 10, 16].all fun base => (List.range 256).all fun c => match evFun TT (gamOf Con.none) 3000 94 [.i .u8 c, .i .i64 base] [] with | .val (.tup [.i .u64 n, .b b]) _ => n == valN c && b == decide (valN c < base) | _ => false) = true := by kernel_rfl
theorem sp2094 : ∃ g, SpecOK Tryz.prog TT 94 g ∧ ∀ c base : Int, 0 ≤ c → c < 256 → base = 2 ∨ base = 10 ∨ base = 16 → ∀ H, g [.i .u8 c, .i .i64 base] H = .val (.tup [.i .u64 (valN c), .b (decide (valN c < base))]) H := by
 obtain ⟨g, k, s⟩ := spec_con TT_ok TT_plain 94 (fun vs => ∃ c base : Int, 0 ≤ c ∧ c < 256 ∧ (base = 2 ∨ base = 10 ∨ base = 16) ∧ vs = [.i .u8 c, .i .i64 base]) (fun vs => match vs with | [.i .u8 c, .i .i64 base] => .val (.tup [.i .u64 (valN c), .b (decide (valN c < base))]) | _ => .val .un) (by
  rintro vs ⟨c, base, h0, h1, hb, rfl⟩;refine ⟨rfl, rfl, 3000, ?_⟩;have hm : base ∈ [2, 10, 16] := by rcases hb with rfl | rfl | rfl <;> simp
  obtain ⟨k, rfl, hk⟩ := range_at (List.all_eq_true.1 tab2094 base hm) h0 h1;split at hk
  ·rename_i n b J he;rw [Bool.and_eq_true] at hk;exact ⟨J, by rw [he, eq_of_beq hk.1, eq_of_beq hk.2]; rfl⟩
  ·cases hk)
 exact ⟨g, k, fun c base h0 h1 hb H => s _ ⟨c, base, h0, h1, hb, rfl⟩ H⟩
theorem sp2055 : ∃ g, SpecOK Tryz.prog TT 55 g ∧ ∀ (b : Bool) (e k : Int) (H : Heap), g [.b b, .i .i64 e, .i .i64 k] H = if b = true then .val .un H else .pan (fltV e k) H := by
 obtain ⟨g, h, s⟩ := spec_pure (P := Tryz.prog) (T := TT) TT_ok TT_plain 55 (fun vs => ∃ (b : Bool) (e k : Int), vs = [.b b, .i .i64 e, .i .i64 k]) (fun vs r => ∃ (b : Bool) (e k : Int), vs = [.b b, .i .i64 e, .i .i64 k] ∧ r = if b = true then .val .un else .pan (fltV e k)) (by
  rintro vs ⟨b, e, k, rfl⟩;refine ⟨rfl, ?_, ?_⟩
  ·rintro r ⟨b', e', k', _, rfl⟩;cases b' <;> rfl
  ·cases b with
   | true =>
    obtain ⟨fn, c, h1, h2, h3, h4⟩ := body_2055t n0 e k;exact ⟨fn, c, h1, h2, h3, h4.mono fun o ⟨r, hr, ho⟩ => ⟨r, ⟨true, e, k, rfl, by simpa using hr⟩, ho⟩⟩
   | false =>
    obtain ⟨fn, c, h1, h2, h3, h4⟩ := body_2055f n0 e k;exact ⟨fn, c, h1, h2, h3, h4.mono fun o ⟨r, hr, ho⟩ => ⟨r, ⟨false, e, k, rfl, by simpa using hr⟩, ho⟩⟩)
 refine ⟨g, h, fun b e k H => ?_⟩;obtain ⟨r, ⟨b', e', k', he, rfl⟩, h2⟩ := s _ ⟨b, e, k, rfl⟩;simp only [List.cons.injEq, V.b.injEq, V.i.injEq, true_and, and_true] at he;obtain ⟨rfl, rfl, rfl⟩ := he;rw [h2];cases b <;> rfl
theorem tr_dig : codeT TT shp Tryz.f95.ntmps [] (bodyOf Tryz.f95) [] ⟨[(0, .f1 .vs (.va 1)), (1, .f1 (.vi .i64) (.va 2))], ⟨.va 0, [], []⟩, 3, []⟩ (KF TT Tryz.f95 []) = .fin (.f1 (.fn 109) (x2 (xp (xN (xh v0) (.cn 0))) (xp (xN (xh v0) (.cn 1))))) ⟨v0,[],[xk 9 (x1 (xs v1)),xk 3 (x1 (xi v2))]⟩ := by kernel_rfl
theorem tr_dig1 : codeT TT shp Tryz.f109.ntmps [] (sub [true, false, false, true, true, false, false, true, false] (bodyOf Tryz.f109)) [] ⟨[(0, .va 1), (1, .f1 (.ptr 0) (.va 2)), (2, .f1 (.ptr 0) (.va 3)), (4, .f1 (.vi .i64) (.va 4)), (8, .f1 (.vi .i64) (.va 5)), (9, .f1 (.vi .i64) (.va 4))], ⟨.va 0, [(.va 2, some ⟨9, .f2 .cons (.f1 .vs (.va 6)) .nil, .all⟩), (.va 3, some ⟨3, .f2 .cons (.f1 (.vi .i64) (.va 7)) .nil, .all⟩)], []⟩, 8, []⟩ (K0 [0, 1, 2, 5, 6, 8, 9]) = .need (xE c0 v4) (.need (xL v4 (xl v6)) (.asks (.call 94 (x2 (xu (xA v6 v4)) (xi v7))) [.i,.b] (xt (x2 (xv v8) (xb v9))) (.leaf .norm [(0,v1),(1,xp v2),(2,xp v3),(5,xv v8),(6,xb v9),(8,xi v5),(9,xi v4)] ⟨v0,[(v2,xk 9 (x1 (xs v6))),(v3,xk 3 (x1 (xi v7)))],[]⟩) (.stuck 0))) := by kernel_rfl
def digB2 (s : List UInt8) (base : Int) : Heap := [some ⟨9, [.s s], .all⟩, some ⟨3, [.i .i64 base], .all⟩]
theorem sp2095 : ∃ g, SpecOK Tryz.prog TT 95 g ∧ ∀ (s : List UInt8) (base : Int) (H : Heap), g [.s s, .i .i64 base] H = .val (.fn 109 [.ptr H.length 0, .ptr (H.length + 1) 0]) (H ++ digB2 s base) := by
 obtain ⟨g, k, h⟩ := spec_hp TT_ok 95 (fun p : List UInt8 × Int => [.s p.1, .i .i64 p.2]) (fun _ _ => True) (fun p H r => r = .val (.fn 109 [.ptr H.length 0, .ptr (H.length + 1) 0]) (H ++ digB2 p.1 p.2)) (by
  rintro ⟨s, b⟩ ⟨s', b'⟩ H r _ _ he hr;simp only [List.cons.injEq, V.s.injEq, V.i.injEq, true_and, and_true] at he;obtain ⟨rfl, rfl⟩ := he;exact hr) (by
  rintro ⟨s, b⟩ H _;refine XBody.sym TT_ok n0 (fn := Tryz.f95) rfl rfl (by simp [Tryz.f95]) tr_dig (by kernel_rfl) [.uh H, .us s, .ui b] rfl ⟨by rw [get_init]; rfl, by rw [get_init]; rfl, trivial⟩ rfl (WF_opq _ _) ?_;simp -implicitDefEqProofs only [VC, isR, exU, Ask.den, forall_eq, E.den, O1.den, O2.den, O3.den, U.int_ui, U.boo_ub, U.val_uv, U.lst_ul, U.str_us, U.nat_un, U.heap_uh, SH.den, setsD, newD, bD, SB.den, factsTo, LQ, List.cons_append, List.nil_append, List.getElem?_cons_zero, List.getElem?_cons_succ, Option.getD_some, ltB_true, ltB_false, leB_true, leB_false, beq_iff_eq, bne_iff_ne, beq_eq_false_iff_ne, Int.toNat_natCast];simp [digB2])
 exact ⟨g, k, fun s b H => h (s, b) H trivial⟩
def whoF (base : Nat) : List UInt8 → Nat → Option Nat
 | [], a => some a
 | c :: r, a => if valN c.toNat < base then (if a * base + (valN c.toNat).toNat < 340282366920938463463374607431768211456 then whoF base r (a * base + (valN c.toNat).toNat) else none) else whoF base r a
noncomputable def rfOf : Code → Code × Code
 | .rangeFunc _ _ a b => (a, b)
 | _ => (.skip, .skip)
noncomputable def wasg : Code := (rfOf (sub [true, true, false, true, false] (bodyOf Tryz.f76))).1
noncomputable def wbdy : Code := (rfOf (sub [true, true, false, true, false] (bodyOf Tryz.f76))).2
abbrev whH (s : List UInt8) (base at_ : Int) (lo hi : Nat) : Heap := [some ⟨3, [.i .i64 base], .all⟩, some ⟨3, [.i .i64 at_], .all⟩, some ⟨131, [.i .u64 lo, .i .u64 hi], .all⟩, some ⟨9, [.s s], .all⟩, some ⟨3, [.i .i64 base], .all⟩]
theorem wrd_a {call : CallF} (hC : call.Sound Tryz.prog TT) {r : Option Nat} {hs : List HE} {t : Tm} {K : Heap} {v : V} (hw : t.wid = 27) (h13 : t.get 13 = v) {Q : Out → List HE → Prop}
 (hQ : ∀ tA : Tm, tA.wid = 27 → tA.get 8 = v → (∀ j, j ≤ 7 → tA.get j = t.get j) → Q (.norm tA K) hs) : TriG Tryz.prog TT r hs wasg t K Q := by
 refine TriG.reg (t' := ?t1) (H' := ?H1) TT_ok hC (by kernel_rfl) ?e1 ?q1;case e1 =>
  refine go_false ?_;refine evSeq_go rfl (by simp [h13] <;> rfl) (by rfl) (by simp [hw]) ?_;exact evSeq_nil
 refine hQ _ (by simp [hw]) (by simp) ?_;intro j hj;have : ¬ j = 8 := by omega
 simp [this]
theorem wrd_b {call : CallF} (hC : call.Sound Tryz.prog TT) {r : Option Nat} {hs : List HE} {t : Tm} (s : List UInt8) (base : Nat) (at_ : Int) (hb : base = 2 ∨ base = 10 ∨ base = 16) (a v : Nat) (ha : a < 340282366920938463463374607431768211456) (hv : v < 16)
 (htim : ∀ p : Nat × Nat × Nat × Nat, p.1 < 18446744073709551616 ∧ p.2.1 < 18446744073709551616 ∧ p.2.2.1 < 18446744073709551616 ∧ p.2.2.2 < 18446744073709551616 → ∀ H, call 96 [wideV p.1 p.2.1, .i .u64 p.2.2.1, .i .u64 p.2.2.2] H = .val (timV (timN p.1 p.2.1 p.2.2.1 p.2.2.2)) H)
 (hmust : ∀ (b : Bool) (e k : Int) (H : Heap), call 55 [.b b, .i .i64 e, .i .i64 k] H = if b = true then .val .un H else .pan (fltV e k) H)
 (hw : t.wid = 27) (h8 : t.get 8 = .i .u64 v) (h4 : t.get 4 = .ptr 0 0) (h5 : t.get 5 = .ptr 1 0) (h7 : t.get 7 = .ptr 2 0) {Q : Out → List HE → Prop}
 (hG : ∀ tA : Tm, a * base + v < 340282366920938463463374607431768211456 → Q (.norm tA (whH s base at_ ((a * base + v) % 18446744073709551616) ((a * base + v) / 18446744073709551616))) hs)
 (hP : ∀ (tA : Tm) (HA : Heap), HA.length = 5 → ¬ a * base + v < 340282366920938463463374607431768211456 → Q (.pan (fltV 33 at_) tA HA) hs) : TriG Tryz.prog TT r hs wbdy t (whH s base at_ (a % 18446744073709551616) (a / 18446744073709551616)) Q := by
 have ht := htim (a % 18446744073709551616, a / 18446744073709551616, base, v) ⟨by simp only; omega, by simp only; omega, by simp only; omega, by simp only; omega⟩;have en : timN (a % 18446744073709551616) (a / 18446744073709551616) base v = a * base + v := by
  unfold timN;rcases hb with rfl | rfl | rfl <;> omega
 rw [en] at ht;simp only [timV, wideV] at ht;have ex : TT.ext 96 = none := rfl;have ex2 : TT.ext 55 = none := rfl;have hwr : IntKind.u64.wrap (base : Int) = base := by rcases hb with rfl | rfl | rfl <;> rfl
 generalize a * base + v = n at ht hG hP;generalize a % 18446744073709551616 = lo at ht;generalize a / 18446744073709551616 = hi at ht;have eN : n < 340282366920938463463374607431768211456 → n / 18446744073709551616 % 18446744073709551616 = n / 18446744073709551616 := fun h => by omega
 generalize n % 18446744073709551616 = lo' at ht hG;generalize n / 18446744073709551616 % 18446744073709551616 = hi' at ht eN;clear en ha htim;refine TriG.block ?_;apply TriG.seq;refine TriG.reg (t' := ?t1) (H' := ?H1) TT_ok hC (by kernel_rfl) ?e1 ?q1;case e1 =>
  refine go_false ?_;refine evSeq_go rfl (by simp <;> rfl) (by rfl) (by simp [hw]) ?_;exact evSeq_nil
 apply inSeqG_norm;apply TriG.seq;refine TriG.reg (t' := ?t2) (H' := ?H2) TT_ok hC (by kernel_rfl) ?e2 ?q2;case e2 =>
  refine go_false ?_;iterate 10 refine evSeq_go rfl (by simp [h8, h4, h5, h7, ht, hwr, ex] <;> rfl) (by rfl) (by simp [hw]) ?_
  exact evSeq_nil
 apply inSeqG_norm;cases hd : decide (n < 340282366920938463463374607431768211456) with
 | true =>
  have hm : ∀ H, call 55 [.b true, .i .i64 33, .i .i64 at_] H = .val .un H := fun H => by rw [hmust]; rfl
  refine TriG.reg (t' := ?t3) (H' := ?H3) TT_ok hC (by kernel_rfl) ?e3 ?q3;case e3 =>
   refine go_false ?_;iterate 3 refine evSeq_go rfl (by simp [h8, h4, h5, h7, hd, hm, ex2] <;> rfl) (by rfl) (by simp [hw]) ?_
   exact evSeq_nil
  refine inBlkG_norm ?_;rw [decide_eq_true_eq] at hd;rw [← eN hd] at hG;exact hG _ hd
 | false =>
  have hm : ∀ H, call 55 [.b false, .i .i64 33, .i .i64 at_] H = .pan (fltV 33 at_) H := fun H => by rw [hmust]; rfl
  refine TriG.regP (t1 := ?t4) (H1 := ?H4) (v := fltV 33 at_) (H' := ?H5) TT_ok hC 2 (by kernel_rfl) rfl ?e4 rfl ?o4 ?q4;case e4 =>
   iterate 2 refine evSeq_go rfl (by simp [h8, h4, h5, h7, hd, hm, ex2] <;> rfl) (by rfl) (by simp [hw]) ?_
   exact evSeq_nil
  case o4 =>
   simp [h8, h4, h5, h7, hd, hm, ex2] <;> rfl
  exact hP _ _ rfl (of_decide_eq_false hd)
theorem valN_nn0 (c : UInt8) : 0 ≤ valN c.toNat := by
 have := u8_nn c;unfold valN digN;split <;> (try split) <;> (try split) <;> omega
theorem loop_dig {call : CallF} (hC : call.Sound Tryz.prog TT) (s : List UInt8) (base : Nat) (at_ : Int) (hb : base = 2 ∨ base = 10 ∨ base = 16) (hlen : s.length < 1100000)
    (hval : ∀ c : UInt8, ∀ H, call 94 [.i .u8 c.toNat, .i .i64 base] H = .val (.tup [.i .u64 (valN c.toNat), .b (decide (valN c.toNat < base))]) H)
    (htim : ∀ p : Nat × Nat × Nat × Nat, p.1 < 18446744073709551616 ∧ p.2.1 < 18446744073709551616 ∧ p.2.2.1 < 18446744073709551616 ∧ p.2.2.2 < 18446744073709551616 → ∀ H, call 96 [wideV p.1 p.2.1, .i .u64 p.2.2.1, .i .u64 p.2.2.2] H = .val (timV (timN p.1 p.2.1 p.2.2.1 p.2.2.2)) H)
    (hmust : ∀ (b : Bool) (e k : Int) (H : Heap), call 55 [.b b, .i .i64 e, .i .i64 k] H = if b = true then .val .un H else .pan (fltV e k) H)
    {l : Nat} {rec : Loop} {t0 : Tm} (hfn : ∃ f, Tryz.prog.funcs[rec.fn]? = some f) (hst : rec.state = .ready) (hpd : rec.pending = none) (hps : rec.params = #[13]) (hasg : rec.assign = wasg) (hbdy : rec.body = wbdy) (hw0 : t0.wid = 27) (e4 : t0.get 4 = .ptr 0 0) (e5 : t0.get 5 = .ptr 1 0) (e7 : t0.get 7 = .ptr 2 0) {Q : Out → List HE → Prop}
    (hP : ∀ (t' : Tm) (H' : Heap) (rec' : Loop), H'.length = 5 → whoF base s 0 = none → Q (.pan (fltV 33 at_) t' H') [⟨l, .loop rec', t0, rec.tmps⟩])
    (hE : ∀ (t' : Tm) (a : Nat), whoF base s 0 = some a → a < 340282366920938463463374607431768211456 → t'.wid = 28 → Q (.exit 0 t' (whH s base at_ (a % 18446744073709551616) (a / 18446744073709551616))) [⟨l, .loop rec, t0, rec.tmps⟩]) :
    ∀ (L pre : List UInt8) (a : Nat) (t : Tm), s = pre ++ L → a < 340282366920938463463374607431768211456 → whoF base s 0 = whoF base L a → t.wid = 28 → t.get 0 = .yld l → t.get 1 = .ptr 3 0 → t.get 2 = .ptr 4 0 → t.get 8 = .i .i64 (s.length : Nat) → t.get 9 = .i .i64 (pre.length : Nat) →
    LTriG Tryz.prog TT none [⟨l, .loop rec, t0, rec.tmps⟩] (sub [true, false, false] (bodyOf Tryz.f109)) t (whH s base at_ (a % 18446744073709551616) (a / 18446744073709551616)) Q := by
  have hrecE : (⟨l, .loop { rec with state := if (none : Option Code).isNone then .ready else .done, pending := none }, t0, rec.tmps⟩ : HE) = ⟨l, .loop rec, t0, rec.tmps⟩ := by
    cases rec
    simp only at hst hpd
    subst hst hpd
    rfl
  intro L
  induction L with
  | nil =>
    intro pre a t hs ha hwh hw t0 t1 t2 t8 t9
    have hF := ai @t0 (ai @t1 (ai @t2 (ai @t8 @t9)))
    have hnl : ¬ ((pre.length : Int) < s.length) := by rw [hs]; simp
    refine LTriG.round ?_
    apply TriG.seq
    refine TriG.reg (t' := ?t1) (H' := ?H1) TT_ok hC (by kernel_rfl) ?e1 ?q1
    case e1 =>
      refine go_false ?_
      refine evSeq_go rfl (by simp [hF, hnl] <;> rfl) (by rfl) (by simp [hw]) ?_
      exact evSeq_nil
    apply inSeqG_norm
    apply TriG.seq
    refine TriG.cond (o := ?o2) (b := ?b2) ?g2 ?r2 ?y2 ?n2
    case g2 => simp [hF, hnl] <;> rfl
    case r2 => rfl
    case y2 => intro h; simp at h
    case n2 =>
      intro _
      refine TriG.exit ?_
      exact hE _ a (by rw [hwh]; rfl) ha (by simp [hw])
  | cons c L ih =>
    intro pre a t hs ha hwh hw t0 t1 t2 t8 t9
    have hF := ai @t0 (ai @t1 (ai @t2 (ai @t8 @t9)))
    have hlt : (pre.length : Int) < s.length := by rw [hs]; simp; omega
    refine LTriG.round ?_
    apply TriG.seq
    refine TriG.reg (t' := ?t1c) (H' := ?H1c) TT_ok hC (by kernel_rfl) ?e1c ?q1c
    case e1c =>
      refine go_false ?_
      refine evSeq_go rfl (by simp [hF, hlt] <;> rfl) (by rfl) (by simp [hw]) ?_
      exact evSeq_nil
    apply inSeqG_norm
    apply TriG.seq
    refine TriG.cond (o := ?o2c) (b := ?b2c) ?g2c ?r2c ?y2c ?n2c
    case g2c => simp [hF, hlt] <;> rfl
    case r2c => rfl
    case n2c => intro h; simp at h
    case y2c =>
      intro _
      refine TriG.skip ?_
      apply inSeqG_norm
      apply TriG.seq
      refine TriG.block ?_
      apply TriG.seq
      refine TriG.reg (t' := ?t3c) (H' := ?H3c) TT_ok hC (by kernel_rfl) ?e3c ?q3c
      case e3c =>
        refine go_false ?_
        iterate 2 refine evSeq_go rfl (by simp [hF, hlt] <;> rfl) (by rfl) (by simp [hw]) ?_
        exact evSeq_nil
      apply inSeqG_norm
      apply TriG.seq
      have hat : atS s pre.length = c.toNat := by rw [hs]; exact at_mid pre L c _ rfl
      have hin : ((pre.length : Nat) : Int).toNat = pre.length := by omega
      have hv0 := valN_nn0 c
      obtain ⟨v, hv⟩ : ∃ v : Nat, valN c.toNat = v := ⟨(valN c.toNat).toNat, by omega⟩
      have hvl := hval c
      rw [hv] at hvl
      refine TriG.lift (Q2 := fun o => ∃ t' : Tm, o = .norm t' (whH s base at_ (a % 18446744073709551616) (a / 18446744073709551616)) ∧ t'.wid = 28 ∧ t'.get 0 = .yld l ∧ t'.get 1 = .ptr 3 0 ∧ t'.get 2 = .ptr 4 0 ∧ t'.get 5 = .i .u64 v ∧ t'.get 6 = .b (decide ((v : Int) < base)) ∧ t'.get 8 = .i .i64 (s.length : Nat) ∧ t'.get 9 = .i .i64 (pre.length : Nat)) ?tri ?_
      case tri =>
        refine Tri.sym (R := fun _ => False) TT_ok hC tr_dig1 (by kernel_rfl) (σ := [.uh (whH s base at_ (a % 18446744073709551616) (a / 18446744073709551616)), .uv (.yld l), .un 3, .un 4, .ui (pre.length : Nat), .ui (s.length : Nat), .us s, .ui base]) (by simp [hw] <;> rfl) rfl ⟨by simp [hF], by simp [hF], by simp [hF], by simp, by simp [hF], by simp [hF], trivial⟩ rfl ⟨by simp, by simp⟩ ?_
        simp -implicitDefEqProofs only [VC, isR, exU, Ask.den, forall_eq, E.den, O1.den, O2.den, O3.den, U.int_ui, U.boo_ub, U.val_uv, U.lst_ul, U.str_us, U.nat_un, U.heap_uh, SH.den, setsD, newD, bD, SB.den, factsTo, LQ, List.cons_append, List.nil_append, List.getElem?_cons_zero, List.getElem?_cons_succ, Option.getD_some, ltB_true, ltB_false, leB_true, leB_false, beq_iff_eq, bne_iff_ne, beq_eq_false_iff_ne, Int.toNat_natCast, hat]
        refine ⟨by omega, hlt, .inl ⟨_, _, fun K => hvl K, ?_⟩⟩
        intro t' hw' f0 f1 f2 f5 f6 f8 f9
        exact ⟨t', rfl, hw', f0, f1, f2, f5, f6, f8, f9⟩
      rintro _ ⟨t', rfl, hw', f0, f1, f2, f5, f6, f8, f9⟩
      refine ⟨trivial, ?_⟩
      apply inSeqG_norm
      clear t0 t1 t2 t8 t9 hF
      have wr1 : IntKind.i64.wrap ((pre.length : Int) + 1) = (pre.length : Int) + 1 := w64 (by omega) (by omega)
      have again : ∀ (a' : Nat) (t3 : Tm), a' < 340282366920938463463374607431768211456 → whoF base s 0 = whoF base L a' → t3.wid = 28 → t3.get 0 = .yld l → t3.get 1 = .ptr 3 0 → t3.get 2 = .ptr 4 0 → t3.get 8 = .i .i64 (s.length : Nat) → t3.get 9 = .i .i64 (pre.length : Nat) →
          TriG Tryz.prog TT none [⟨l, .loop rec, t0, rec.tmps⟩] (sub [true, false, false, true, true, true] (bodyOf Tryz.f109)) t3 (whH s base at_ (a' % 18446744073709551616) (a' / 18446744073709551616)) (inLoopG Tryz.prog TT none (sub [true, false, false] (bodyOf Tryz.f109)) Q) := by
        intro a' t3 ha' hwa' hw3 g0 g1 g2 g8 g9
        refine TriG.reg (t' := ?t9) (H' := ?H9) TT_ok hC (by kernel_rfl) ?e9 ?q9
        case e9 =>
          refine go_false ?_
          iterate 2 refine evSeq_go rfl (by simp [g0, g1, g2, g8, g9, wr1] <;> rfl) (by rfl) (by simp [fits_some, fits_none, hw3, Nat.blt_eq]) ?_
          exact evSeq_nil
        refine inLoopG_norm ?_
        refine ih (pre ++ [c]) a' _ ?_ ha' hwa' ?_ ?_ ?_ ?_ ?_ ?_
        · rw [hs]; simp
        all_goals simp [hw3, g0, g1, g2, g8]
      apply TriG.seq
      by_cases hvb : (v : Int) < base
      · rw [decide_eq_true hvb] at f6
        have hv16 : v < 16 := by rcases hb with rfl | rfl | rfl <;> omega
        have hwc : whoF base (c :: L) a = if a * base + v < 340282366920938463463374607431768211456 then whoF base L (a * base + v) else none := by
          simp only [whoF]
          rw [hv, if_pos hvb, Int.toNat_natCast]
        by_cases hbig : a * base + v < 340282366920938463463374607431768211456
        · refine TriG.yield (vs := [.i .u64 v]) (t1 := ?ty) (H1 := ?Hy) TT_ok hC (by kernel_rfl) 4 hps hasg hbdy rfl ?ey ?gy rfl ?jy ?vy hfn rfl hst ?fy (by simp [hw0]) ?_
          case ey =>
            iterate 2 refine evSeq_go rfl (by simp [f0, f1, f2, f5, f6, f8, f9] <;> rfl) (by rfl) (by simp [fits_some, fits_none, hw', Nat.blt_eq]) ?_
            iterate 2 refine evSeq_go (by simp [wants]) (by simp [f0, f1, f2, f5, f6, f8, f9] <;> rfl) (by rfl) (by simp [fits_some, fits_none, hw', Nat.blt_eq]) ?_
            exact evSeq_nil
          case gy => simp [wants]
          case jy => simp [f0]
          case vy => simp [f5]
          case fy => simp [fits_some, hw', Nat.blt_eq]
          refine wrd_a hC (v := .i .u64 v) (by simp [putL, hw0]) (by simp [putL]) ?_
          intro tA hwA h8A hkA
          refine ⟨_, _, _, rfl, rfl, ?_⟩
          refine wrd_b hC s base at_ hb a v ha hv16 htim hmust hwA h8A (by rw [hkA 4 (by omega)]; simp [putL, e4]) (by rw [hkA 5 (by omega)]; simp [putL, e5]) (by rw [hkA 7 (by omega)]; simp [putL, e7]) (fun tB _ => ?_) (fun _ _ _ h => absurd hbig h)
          refine ⟨_, rfl, none, _, ⟨rfl, rfl⟩, ?t26, ?H26, ?er6, ?_⟩
          case er6 =>
            refine evSeq_go (by simp [wants]) (by simp [f0, f1, f2, f5, f6, f8, f9] <;> rfl) (by rfl) (by simp [fits_some, fits_none, hw', Nat.blt_eq]) ?_
            refine evSeq_go rfl (by simp [f0, f1, f2, f5, f6, f8, f9] <;> rfl) (by rfl) (by simp [fits_some, fits_none, hw', Nat.blt_eq]) ?_
            exact evSeq_nil
          rw [hrecE]
          apply inSeqG_norm
          refine TriG.cond (o := ?o8) (b := ?b8) ?g8 ?r8 ?y8 ?n8
          case g8 => simp [f6] <;> rfl
          case r8 => rfl
          case y8 => intro h; simp at h
          case n8 =>
            intro _
            refine TriG.skip ?_
            refine inBlkG_norm ?_
            apply inSeqG_norm
            refine again _ _ hbig (by rw [hwh, hwc, if_pos hbig]) ?_ ?_ ?_ ?_ ?_ ?_
            all_goals simp [hw', f0, f1, f2, f8, f9]
        · refine TriG.yieldP (vs := [.i .u64 v]) (t1 := ?tz) (H1 := ?Hz) TT_ok hC (by kernel_rfl) 4 hps hasg hbdy rfl ?ez ?gz rfl ?jz ?vz hfn rfl hst (by simp [hw0]) ?_
          case ez =>
            iterate 2 refine evSeq_go rfl (by simp [f0, f1, f2, f5, f6, f8, f9] <;> rfl) (by rfl) (by simp [fits_some, fits_none, hw', Nat.blt_eq]) ?_
            iterate 2 refine evSeq_go (by simp [wants]) (by simp [f0, f1, f2, f5, f6, f8, f9] <;> rfl) (by rfl) (by simp [fits_some, fits_none, hw', Nat.blt_eq]) ?_
            exact evSeq_nil
          case gz => simp [wants]
          case jz => simp [f0]
          case vz => simp [f5]
          refine wrd_a hC (v := .i .u64 v) (by simp [putL, hw0]) (by simp [putL]) ?_
          intro tA hwA h8A hkA
          refine ⟨_, _, _, rfl, rfl, ?_⟩
          refine wrd_b hC s base at_ hb a v ha hv16 htim hmust hwA h8A (by rw [hkA 4 (by omega)]; simp [putL, e4]) (by rw [hkA 5 (by omega)]; simp [putL, e5]) (by rw [hkA 7 (by omega)]; simp [putL, e7]) (fun tB h => absurd h hbig) (fun tB HB hl5 _ => ?_)
          exact ⟨_, _, _, _, rfl, rfl, hP _ _ _ hl5 (by rw [hwh, hwc, if_neg hbig])⟩
      · rw [decide_eq_false hvb] at f6
        have hwc : whoF base (c :: L) a = whoF base L a := by
          simp only [whoF]
          rw [hv, if_neg hvb]
        refine TriG.reg (t' := ?t7) (H' := ?H7) TT_ok hC (by kernel_rfl) ?e7 ?q7
        case e7 =>
          refine go_false ?_
          iterate 2 refine evSeq_go rfl (by simp [f0, f1, f2, f5, f6, f8, f9] <;> rfl) (by rfl) (by simp [fits_some, fits_none, hw', Nat.blt_eq]) ?_
          iterate 4 refine evSeq_off (by simp [wants]) (by simp [fits_some, fits_none, hw', Nat.blt_eq]) ?_
          refine evSeq_go rfl (by simp [f0, f1, f2, f5, f6, f8, f9] <;> rfl) (by rfl) (by simp [fits_some, fits_none, hw', Nat.blt_eq]) ?_
          exact evSeq_nil
        apply inSeqG_norm
        refine TriG.cond (o := ?o6) (b := ?b6) ?g6 ?r6 ?y6 ?n6
        case g6 => simp [f6] <;> rfl
        case r6 => rfl
        case y6 => intro h; simp at h
        case n6 =>
          intro _
          refine TriG.skip ?_
          refine inBlkG_norm ?_
          apply inSeqG_norm
          refine again a _ ha (by rw [hwh, hwc]) ?_ ?_ ?_ ?_ ?_ ?_
          all_goals simp [hw', f0, f1, f2, f8, f9]
def whoO (s : List UInt8) (base at_ : Int) (t : Tm) : Option Nat → Out
 | some a => .norm t (whH s base at_ (a % 18446744073709551616) (a / 18446744073709551616))
 | none => .pan (fltV 33 at_) t [none, none, none, none, none]
theorem hle_none {H : Heap} (h : H.length = 5) : HLe [none, none, none, none, none] H := by
 refine ⟨h.symm, fun i b hi => ?_⟩;match i, hi with
 | 0, hi => cases hi
 | 1, hi => cases hi
 | 2, hi => cases hi
 | 3, hi => cases hi
 | 4, hi => cases hi
 | n + 5, hi => simp at hi
theorem iter_dig {call : CallF} (hC : call.Sound Tryz.prog TT) (s : List UInt8) (base : Nat) (at_ : Int) (hb : base = 2 ∨ base = 10 ∨ base = 16) (hlen : s.length < 1100000)
 (hval : ∀ c : UInt8, ∀ H, call 94 [.i .u8 c.toNat, .i .i64 base] H = .val (.tup [.i .u64 (valN c.toNat), .b (decide (valN c.toNat < base))]) H)
 (htim : ∀ p : Nat × Nat × Nat × Nat, p.1 < 18446744073709551616 ∧ p.2.1 < 18446744073709551616 ∧ p.2.2.1 < 18446744073709551616 ∧ p.2.2.2 < 18446744073709551616 → ∀ H, call 96 [wideV p.1 p.2.1, .i .u64 p.2.2.1, .i .u64 p.2.2.2] H = .val (timV (timN p.1 p.2.1 p.2.2.1 p.2.2.2)) H)
 (hmust : ∀ (b : Bool) (e k : Int) (H : Heap), call 55 [.b b, .i .i64 e, .i .i64 k] H = if b = true then .val .un H else .pan (fltV e k) H)
 {l : Nat} {rec : Loop} {t0 : Tm} (hfn : ∃ f, Tryz.prog.funcs[rec.fn]? = some f) (hst : rec.state = .ready) (hpd : rec.pending = none) (hps : rec.params = #[13]) (hasg : rec.assign = wasg) (hbdy : rec.body = wbdy) (hw0 : t0.wid = 27) (e4 : t0.get 4 = .ptr 0 0) (e5 : t0.get 5 = .ptr 1 0) (e7 : t0.get 7 = .ptr 2 0) :
 TriG Tryz.prog TT none [⟨l, .loop rec, t0, rec.tmps⟩] (bodyOf Tryz.f109) (Tm.init Tryz.f109.ntmps [.yld l, .ptr 3 0, .ptr 4 0]) (whH s base at_ 0 0) (RangeQP TT Tryz.f109 l rec.tmps t0 (whoO s base at_ t0 (whoF base s 0)) []) := by
 have h0 : (Tm.init Tryz.f109.ntmps [.yld l, .ptr 3 0, .ptr 4 0]).get 0 = .yld l := by rw [get_init]; rfl
 have h1 : (Tm.init Tryz.f109.ntmps [.yld l, .ptr 3 0, .ptr 4 0]).get 1 = .ptr 3 0 := by rw [get_init]; rfl
 have h2 : (Tm.init Tryz.f109.ntmps [.yld l, .ptr 3 0, .ptr 4 0]).get 2 = .ptr 4 0 := by rw [get_init]; rfl
 have hw : (Tm.init Tryz.f109.ntmps [.yld l, .ptr 3 0, .ptr 4 0]).wid = 28 := rfl;generalize Tm.init Tryz.f109.ntmps [.yld l, .ptr 3 0, .ptr 4 0] = t at *;apply TriG.seq;refine TriG.reg (t' := ?t1) (H' := ?H1) TT_ok hC (by kernel_rfl) ?e1 ?q1;case e1 =>
  refine go_false ?_;iterate 3 refine evSeq_go rfl (by simp [h0, h1, h2] <;> rfl) (by rfl) (by simp [hw]) ?_
  exact evSeq_nil
 apply inSeqG_norm;refine TriG.block ?_;refine TriG.loop ?_;refine loop_dig hC s base at_ hb hlen hval htim hmust hfn hst hpd hps hasg hbdy hw0 e4 e5 e7 ?_ ?_ s [] 0 _ rfl (by omega) rfl ?_ ?_ ?_ ?_ ?_ ?_
 ·intro t' H' rec' hl hn;rw [hn];exact .inr ⟨rec', _, t', H', [none, none, none, none, none], hle_none hl, rfl, rfl, rfl⟩
 ·intro t' a ha _ hw';rw [ha];refine inBlkG_exit ?_;exact .inl ⟨rec, _, _, .tup [], HLe.refl _, ⟨_, .inl rfl, rfl⟩, rfl, by rw [hst]; simp, .inl ⟨hpd, rfl⟩⟩
 all_goals simp [hw, h0, h1, h2]
theorem whoF_lt (base : Nat) : ∀ (L : List UInt8) (a b : Nat), whoF base L a = some b → a < 340282366920938463463374607431768211456 → b < 340282366920938463463374607431768211456
 | [], a, b, h, ha => by
  have h := Option.some.inj h;rw [← h]; exact ha
 | c :: r, a, b, h, ha => by
  simp only [whoF] at h;by_cases h1 : valN c.toNat < base
  ·rw [if_pos h1] at h;by_cases h2 : a * base + (valN c.toNat).toNat < 340282366920938463463374607431768211456
   ·rw [if_pos h2] at h;exact whoF_lt base r _ b h h2
   ·rw [if_neg h2] at h; cases h
  ·rw [if_neg h1] at h;exact whoF_lt base r a b h ha
def whoV (base : Nat) (s : List UInt8) (at_ : Int) : Res := match whoF base s 0 with
 | some a => .val (.s (decN a))
 | none => .pan (fltV 33 at_)
theorem body_2076 {call : CallF} (hC : call.Sound Tryz.prog TT) (s : List UInt8) (base : Nat) (at_ : Int) (hb : base = 2 ∨ base = 10 ∨ base = 16) (hlen : s.length < 1100000)
 (hval : ∀ c : UInt8, ∀ H, call 94 [.i .u8 c.toNat, .i .i64 base] H = .val (.tup [.i .u64 (valN c.toNat), .b (decide (valN c.toNat < base))]) H)
 (htim : ∀ p : Nat × Nat × Nat × Nat, p.1 < 18446744073709551616 ∧ p.2.1 < 18446744073709551616 ∧ p.2.2.1 < 18446744073709551616 ∧ p.2.2.2 < 18446744073709551616 → ∀ H, call 96 [wideV p.1 p.2.1, .i .u64 p.2.2.1, .i .u64 p.2.2.2] H = .val (timV (timN p.1 p.2.1 p.2.2.1 p.2.2.2)) H)
 (hmust : ∀ (b : Bool) (e k : Int) (H : Heap), call 55 [.b b, .i .i64 e, .i .i64 k] H = if b = true then .val .un H else .pan (fltV e k) H)
 (hdig : ∀ (s : List UInt8) (base : Int) (H : Heap), call 95 [.s s, .i .i64 base] H = .val (.fn 109 [.ptr H.length 0, .ptr (H.length + 1) 0]) (H ++ digB2 s base))
 (htxt : ∀ p : Nat × Nat, p.1 < 18446744073709551616 ∧ p.2 < 18446744073709551616 → ∀ H, call 97 [wideV p.1 p.2] H = .val (.s (decN (p.1 + p.2 * 18446744073709551616))) H) :
 GXBody Tryz.prog TT 76 [.s s, .i .i64 base, .i .i64 at_] [] (isR (whoV base s at_)) := by
 have ex1 : TT.ext 95 = none := rfl;have ex2 : TT.ext 97 = none := rfl;refine ⟨Tryz.f76, _, rfl, rfl, by simp [Tryz.f76], ?_⟩;have h0 : (Tm.init Tryz.f76.ntmps [.s s, .i .i64 base, .i .i64 at_]).get 0 = .s s := by rw [get_init]; rfl
 have h1 : (Tm.init Tryz.f76.ntmps [.s s, .i .i64 base, .i .i64 at_]).get 1 = .i .i64 base := by rw [get_init]; rfl
 have h2 : (Tm.init Tryz.f76.ntmps [.s s, .i .i64 base, .i .i64 at_]).get 2 = .i .i64 at_ := by rw [get_init]; rfl
 have hw : (Tm.init Tryz.f76.ntmps [.s s, .i .i64 base, .i .i64 at_]).wid = 27 := rfl;generalize Tm.init Tryz.f76.ntmps [.s s, .i .i64 base, .i .i64 at_] = t at *;apply TriG.seq;refine TriG.reg (t' := ?t1) (H' := ?H1) TT_ok hC (by kernel_rfl) ?e1 ?q1;case e1 =>
  refine go_false ?_;iterate 3 refine evSeq_go rfl (by simp [h0, h1, h2] <;> rfl) (by rfl) (by simp [hw]) ?_
  exact evSeq_nil
 apply inSeqG_norm;apply TriG.seq;refine TriG.reg (t' := ?t2) (H' := ?H2) TT_ok hC (by kernel_rfl) ?e2 ?q2;case e2 =>
  refine go_false ?_;refine evSeq_go rfl (by simp [h0, h1, h2] <;> rfl) (by rfl) (by simp [hw]) ?_;exact evSeq_nil
 apply inSeqG_norm;iterate 2 apply TriG.seq
 refine TriG.reg (t' := ?t3) (H' := ?H3) TT_ok hC (by kernel_rfl) ?e3 ?q3;case e3 =>
  refine go_false ?_;iterate 3 refine evSeq_go rfl (by simp [h0, h1, h2, hdig, digB2, ex1] <;> rfl) (by rfl) (by simp [hw]) ?_
  exact evSeq_nil
 apply inSeqG_norm;refine TriG.block ?_;refine TriG.range (gv := some (.fn 109 [.ptr 3 0, .ptr 4 0])) (oz := ?oz) (hsz := []) TT_ok (by simp) rfl Tryz.func109 rfl (TT_ok.func 109 _ _ rfl rfl).2 (by decide) (by simp) ?hQ ?hI;case hI =>
  intro l rec hfn hst hpd hps hasg hbdy;refine iter_dig hC s base at_ hb hlen hval htim hmust hfn hst hpd hps hasg hbdy ?_ ?_ ?_ ?_;all_goals simp [hw]
 case hQ =>
  cases hF : whoF base s 0 with
  | none =>
   simp only [whoO, whoV, hF];exact rfl
  | some a =>
   have hlt := whoF_lt base s 0 a hF (by omega);have ht := htxt (a % 18446744073709551616, a / 18446744073709551616) ⟨by simp only; omega, by simp only; omega⟩;rw [show a % 18446744073709551616 + a / 18446744073709551616 * 18446744073709551616 = a from by omega] at ht;simp only [wideV] at ht;simp only [whoO, whoV, hF];generalize a % 18446744073709551616 = lo at ht ⊢;generalize a / 18446744073709551616 = hi at ht ⊢;clear hlt;refine inBlkG_norm ?_;apply inSeqG_norm;apply TriG.seq;refine TriG.reg (t' := ?t5) (H' := ?H5) TT_ok hC (by kernel_rfl) ?e5 ?q5;case e5 =>
    refine go_false ?_;iterate 3 refine evSeq_go rfl (by simp [h0, h1, h2, ht, ex2] <;> rfl) (by rfl) (by simp [hw]) ?_
    exact evSeq_nil
   apply inSeqG_norm;refine TriG.ret ?_;refine ⟨.s (decN a), rfl, ?_⟩;simp [Tryz.f76]
theorem spec_gx {P : Program} {T : Tab} (hp : T.Plain) (F : FuncId) {α : Type} (enc : α → List V) (D : α → Prop) (r : α → Res) (hnl : ∀ a, D a → nlL (enc a) = true ∧ (r a).nl = true) (inj : ∀ a b, D a → D b → enc a = enc b → r a = r b)
    (h : ∀ a, D a → XFact P T F (enc a) [] (isR (r a))) : ∃ g, SpecOK P T F g ∧ ∀ a, D a → ∀ H, g (enc a) H = (r a).at H := by
  classical
  refine ⟨fun vs H => if hd : ∃ a, D a ∧ vs = enc a then (r hd.choose).at H else .no, ?_, ?_⟩
  · intro vs H q hq hne
    simp only at hq
    split at hq
    · rename_i hd
      obtain ⟨ha, he⟩ := hd.choose_spec
      generalize hd.choose = a at ha he hq
      subst he
      obtain ⟨x, hx, _, hent, hw⟩ := h a ha
      refine ⟨hent, fun M ρ w args hS hr => ?_⟩
      have k := hw M [] w args (hS.forget hp) (nlL_rel (σ := []) _ args (hnl a ha).1 hr)
      subst hq
      have hn := (hnl a ha).2
      cases hra : r a with
      | val v =>
        rw [hra] at hx hn
        cases x with
        | val v' J =>
          have hx : Res.val v = .val v' := hx
          cases hx
          refine Calls.mono k ?_
          rintro e w' ⟨y, M', σ, rfl, he, hy, hk⟩
          exact ⟨y, M', ρ, rfl, he.recall, nl_rel v y hn hy, hS.recall hk he⟩
        | pan v' J => cases (show Res.val v = .pan v' from hx)
        | no => exact hx.elim
      | pan v =>
        rw [hra] at hx hn
        cases x with
        | pan v' J =>
          have hx : Res.pan v = .pan v' := hx
          cases hx
          refine Calls.mono k ?_
          rintro e w' ⟨y, M', σ, rfl, he, hy, hk⟩
          exact ⟨y, M', ρ, rfl, he.recall, nl_rel v y hn hy, hS.recall hk he⟩
        | val v' J => cases (show Res.pan v = .val v' from hx)
        | no => exact hx.elim
    · exact absurd hq.symm hne
  · intro a ha H
    have hd : ∃ b, D b ∧ enc a = enc b := ⟨a, ha, rfl⟩
    obtain ⟨h1, h2⟩ := hd.choose_spec
    show (if hd : ∃ b, D b ∧ enc a = enc b then (r hd.choose).at H else .no) = _
    rw [dif_pos hd, inj a _ ha h1 h2]
theorem sp2076 : ∃ g, SpecOK Tryz.prog TT 76 g ∧ ∀ (s : List UInt8) (base : Nat) (at_ : Int), base = 2 ∨ base = 10 ∨ base = 16 → s.length < 1100000 → ∀ H, g [.s s, .i .i64 base, .i .i64 at_] H = (whoV base s at_).at H := by
  obtain ⟨g1, k1, s1⟩ := sp2094
  obtain ⟨g2, k2, s2⟩ := sp2055
  obtain ⟨g3, k3, s3⟩ := sp2096
  obtain ⟨g4, k4, s4⟩ := sp2095
  obtain ⟨g5, k5, s5⟩ := sp2097
  have hC := ws (ws (ws (ws (ws n0 k1) k2) k3) k4) k5
  obtain ⟨g, k, h⟩ := spec_gx (P := Tryz.prog) (T := TT) TT_plain 76 (fun p : List UInt8 × Nat × Int => [.s p.1, .i .i64 p.2.1, .i .i64 p.2.2]) (fun p => (p.2.1 = 2 ∨ p.2.1 = 10 ∨ p.2.1 = 16) ∧ p.1.length < 1100000) (fun p => whoV p.2.1 p.1 p.2.2)
    (fun p _ => ⟨rfl, by unfold whoV; cases whoF p.2.1 p.1 0 <;> rfl⟩)
    (fun p q _ _ he => by
      simp only [List.cons.injEq, V.s.injEq, V.i.injEq, true_and, and_true, Int.ofNat_inj] at he
      obtain ⟨h1, h2, h3⟩ := he
      rw [h1, h2, h3])
    (fun p hp => GXBody.fact TT_ok (body_2076 hC p.1 p.2.1 p.2.2 hp.1 hp.2
      (fun c H => by rw [w_other _ _ _ _ rfl, w_other _ _ _ _ rfl, w_other _ _ _ _ rfl, w_other _ _ _ _ rfl, w_here]; exact s1 _ _ (by omega) (by have := c.toNat_lt; omega) (by have := hp.1; omega) H)
      (fun q hq H => by rw [w_other _ _ _ _ rfl, w_other _ _ _ _ rfl, w_here]; exact s3 q hq H)
      (fun b e k H => by rw [w_other _ _ _ _ rfl, w_other _ _ _ _ rfl, w_other _ _ _ _ rfl, w_here]; exact s2 b e k H)
      (fun s b H => by rw [w_other _ _ _ _ rfl, w_here]; exact s4 s b H)
      (fun q hq H => by rw [w_here]; exact s5 q hq H)))
  exact ⟨g, k, fun s base at_ hb hs H => h (s, base, at_) ⟨hb, hs⟩ H⟩
abbrev MustH (call : CallF) : Prop := ∀ (b : Bool) (e k : Int) (H : Heap), call 55 [.b b, .i .i64 e, .i .i64 k] H = if b = true then .val .un H else .pan (fltV e k) H
theorem must_ask {call : CallF} (hm : MustH call) (b : Bool) (e k : Int) {A : Prop} {B : V → Prop} (h1 : b = true → A) (h2 : b = false → B (fltV e k)) :
 ((∀ K, call 55 [.b b, .i .i64 e, .i .i64 k] K = .val (.tup []) K) ∧ A) ∨ ∃ v, (∀ K, call 55 [.b b, .i .i64 e, .i .i64 k] K = .pan v K) ∧ B v := by
 cases b with
 | true => exact .inl ⟨fun K => hm true e k K, h1 rfl⟩
 | false => exact .inr ⟨_, fun K => hm false e k K, h2 rfl⟩
def runF (base : Int) : List UInt8 → Nat → Option Nat
 | [], n => some n
 | c :: r, n => if valN c.toNat < base then runF base r (n + 1) else if c.toNat ≠ 95 ∨ n = 0 then some n else match r with
  | d :: _ => if valN d.toNat < base then runF base r (n + 1) else none
  | [] => none
theorem tr_rn1 : codeT TT shp Tryz.f75.ntmps [] (bodyOf Tryz.f75) [] ⟨[(0, .f1 .vs (.va 0)), (1, .f1 (.vi .i64) (.va 1)), (2, .f1 (.vi .i64) (.va 2))], ⟨.va 3, [], []⟩, 4, []⟩ (KF TT Tryz.f75 [0, 1, 2, 7]) = .leaf (.stop [true,true,false,false]) [(0,xs v0),(1,xi v1),(2,xi v2),(7,xi c0)] ⟨v3,[],[]⟩ := by kernel_rfl
theorem tr_rn2 : goT TT shp Tryz.f75.ntmps [] [true, true, false, false, false] (bodyOf Tryz.f75) [] ⟨[(0, .f1 .vs (.va 0)), (1, .f1 (.vi .i64) (.va 1)), (2, .f1 (.vi .i64) (.va 2)), (7, .f1 (.vi .i64) (.va 3))], ⟨.va 4, [], []⟩, 5, []⟩ (KF TT Tryz.f75 [0, 1, 2, 7]) = let qc:E:=xw (xa v3 c1);let qb:SH:=⟨v4,[],[]⟩;let qa:Tree:=.leaf (.again [true,true,false,false,false]) [(0,xs v0),(1,xi v1),(2,xi v2),(7,xi qc)] qb;let qd:Tree:=.fin (xi v3) qb;.ite (xL v3 (xl v0)) (.need (xE c0 v3) (.asks (.call 94 (x2 (xu (xA v0 v3)) (xi v1))) [.i,.b] (xt (x2 (xv v5) (xb v6))) (.ite v6 qa (.ite (xM (xA v0 v3) (xc 95)) qd (.ite (xe v3 c0) qd (.ite (xL qc (xl v0)) (.need (xE c0 qc) (.asks (.call 94 (x2 (xu (xA v0 qc)) (xi v1))) [.i,.b] (xt (x2 (xv v7) (xb v8))) (.asks (.call 55 (x3 (xb v8) (xi (xc 33)) (xi v2))) [] (.cv (.tup [])) qa (.pnc v9 qb)) (.stuck 0))) (.asks (.call 55 (x3 (xb (xL qc (xl v0))) (xi (xc 33)) (xi v2))) [] (.cv (.tup [])) qa (.pnc v7 qb)))))) (.stuck 0))) qd := by kernel_rfl
def rnV (o : Option Nat) (at_ : Int) : Res := match o with
 | some n => .val (.i .i64 n)
 | none => .pan (fltV 33 at_)
theorem head_rn {call : CallF} (hC : call.Sound Tryz.prog TT) (hm : MustH call) (base at_ : Int) (hval : ∀ c : UInt8, ∀ H, call 94 [.i .u8 c.toNat, .i .i64 base] H = .val (.tup [.i .u64 (valN c.toNat), .b (decide (valN c.toNat < base))]) H) :
    ∀ (L pre : List UInt8) (t : Tm) (H : Heap), (pre ++ L).length < 1100000 → t.wid = Tryz.f75.ntmps → t.get 0 = .s (pre ++ L) → t.get 1 = .i .i64 base → t.get 2 = .i .i64 at_ → t.get 7 = .i .i64 pre.length →
    ctx Tryz.prog TT [true, true, false, false, false] (bodyOf Tryz.f75) (EndsX TT Tryz.f75 (isR (rnV (runF base L pre.length) at_))) (.norm t H) := by
  intro L
  induction L with
  | nil =>
    intro pre t H hlen hw t0 t1 t2 t7
    refine LTri.symIn (p := [true, true, false, false]) TT_ok hC rfl tr_rn2 (by kernel_rfl) [.us (pre ++ []), .ui base, .ui at_, .ui (pre.length : Nat), .uh H] rfl hw ⟨t0, t1, t2, t7, trivial⟩ rfl (WF_opq _ _) ?_
    simp -implicitDefEqProofs only [VC, isR, exU, Ask.den, forall_eq, E.den, O1.den, O2.den, O3.den, U.int_ui, U.boo_ub, U.val_uv, U.lst_ul, U.str_us, U.nat_un, U.heap_uh, SH.den, setsD, newD, bD, SB.den, factsTo, LQ, List.cons_append, List.nil_append, List.getElem?_cons_zero, List.getElem?_cons_succ, Option.getD_some, ltB_true, ltB_false, leB_true, leB_false, beq_iff_eq, bne_iff_ne, beq_eq_false_iff_ne, Int.toNat_natCast]
    rw [List.append_nil]
    exact ⟨fun h => absurd h (by omega), fun _ => rfl⟩
  | cons b L ih =>
    intro pre t H hlen hw t0 t1 t2 t7
    refine LTri.symIn (p := [true, true, false, false]) TT_ok hC rfl tr_rn2 (by kernel_rfl) [.us (pre ++ b :: L), .ui base, .ui at_, .ui (pre.length : Nat), .uh H] rfl hw ⟨t0, t1, t2, t7, trivial⟩ rfl (WF_opq _ _) ?_
    clear t0 t1 t2 t7 hw
    simp -implicitDefEqProofs only [VC, isR, exU, Ask.den, forall_eq, E.den, O1.den, O2.den, O3.den, U.int_ui, U.boo_ub, U.val_uv, U.lst_ul, U.str_us, U.nat_un, U.heap_uh, SH.den, setsD, newD, bD, SB.den, factsTo, LQ, List.cons_append, List.nil_append, List.getElem?_cons_zero, List.getElem?_cons_succ, Option.getD_some, ltB_true, ltB_false, leB_true, leB_false, beq_iff_eq, bne_iff_ne, beq_eq_false_iff_ne, Int.toNat_natCast]
    have hl : (pre ++ b :: L).length = pre.length + (L.length + 1) := by simp
    rw [hl] at hlen
    have w1 : IntKind.i64.wrap ((pre.length : Int) + 1) = ((pre.length + 1 : Nat) : Int) := by rw [w64 (by omega) (by omega)]; omega
    simp only [w1, Int.toNat_natCast, at_mid pre L b _ rfl, hl]
    have e1 : pre ++ b :: L = (pre ++ [b]) ++ L := by simp
    have e2 : ((pre.length + 1 : Nat) : Int) = ((pre ++ [b]).length : Nat) := by simp
    have go : runF base (b :: L) pre.length = runF base L (pre.length + 1) → ∀ t : Tm, t.wid = Tryz.f75.ntmps → t.get 0 = .s (pre ++ b :: L) → t.get 1 = .i .i64 base → t.get 2 = .i .i64 at_ → t.get 7 = .i .i64 ((pre.length + 1 : Nat) : Int) →
        ctx Tryz.prog TT [true, true, false, false, false] (bodyOf Tryz.f75) (EndsX TT Tryz.f75 (isR (rnV (runF base (b :: L) pre.length) at_))) (.norm t H) := fun e t hw f0 f1 f2 f7 => by
      have := ih (pre ++ [b]) t H (by simp; omega) hw (by rw [f0, e1]) f1 f2 (by rw [f7, e2])
      rw [e]
      simpa using this
    refine ⟨fun _ => ⟨by omega, .inl ⟨_, _, hval b, fun hv => go (by simp only [runF, if_pos (of_decide_eq_true hv)]), fun hv => ⟨fun h95 => ?_, fun h95 => ⟨fun h0 => ?_, fun h0 => ?_⟩⟩⟩⟩, fun h => absurd h (by omega)⟩
    · simp only [runF]
      rw [if_neg (of_decide_eq_false hv), if_pos (.inl (fun e => by rw [e] at h95; exact absurd h95 (by decide)))]
      rfl
    · simp only [runF]
      rw [if_neg (of_decide_eq_false hv), if_pos (.inr (by omega))]
      rfl
    · have hu : ¬ (b.toNat ≠ 95 ∨ pre.length = 0) := by
        simp only [bne_eq_false_iff_eq] at h95
        omega
      cases L with
      | nil =>
        refine ⟨fun h => absurd h (by simp), fun h => ?_⟩
        refine must_ask hm _ _ _ (fun hb => by simp at hb) fun _ => ?_
        simp only [runF]
        rw [if_neg (of_decide_eq_false hv), if_neg hu]
        rfl
      | cons d r =>
        have hat : atS (pre ++ b :: d :: r) ((pre.length + 1 : Nat) : Int) = d.toNat := by
          rw [show pre ++ b :: d :: r = (pre ++ [b]) ++ d :: r from by simp]
          exact at_mid (pre ++ [b]) r d _ (by simp)
        rw [hat]
        refine ⟨fun h => ⟨by omega, .inl ⟨_, _, hval d, must_ask hm _ _ _ (fun hb => go ?_) fun hb => ?_⟩⟩, fun h => absurd h (by simp only [List.length_cons]; omega)⟩
        · simp only [runF]
          rw [if_neg (of_decide_eq_false hv), if_neg hu]
          rw [if_pos (of_decide_eq_true hb)]
        · simp only [runF]
          rw [if_neg (of_decide_eq_false hv), if_neg hu]
          rw [if_neg (of_decide_eq_false hb)]
          rfl
theorem sp2075 : ∃ g, SpecOK Tryz.prog TT 75 g ∧ ∀ (s : List UInt8) (base at_ : Int), s.length < 1100000 → base = 2 ∨ base = 10 ∨ base = 16 → ∀ H, g [.s s, .i .i64 base, .i .i64 at_] H = (match runF base s 0 with | some n => .val (.i .i64 n) H | none => .pan (fltV 33 at_) H) := by
 obtain ⟨g1, k1, s1⟩ := sp2094;obtain ⟨g2, k2, s2⟩ := sp2055;obtain ⟨g, k, s⟩ := spec_fn TT_ok TT_plain 75 (fun p : List UInt8 × Int × Int => [.s p.1, .i .i64 p.2.1, .i .i64 p.2.2]) (fun p => p.1.length < 1100000 ∧ (p.2.1 = 2 ∨ p.2.1 = 10 ∨ p.2.1 = 16)) (fun p => rnV (runF p.2.1 p.1 0) p.2.2) (fun p _ => ⟨rfl, by unfold rnV; split <;> rfl⟩)
  (fun a b _ _ h => by
   simp only [List.cons.injEq, V.s.injEq, V.i.injEq, true_and, and_true] at h;rw [h.1, h.2.1, h.2.2]) fun p hp => by
  obtain ⟨s, base, at_⟩ := p;simp only at hp ⊢;have hC := ws (ws n0 k1) k2;have c1 : MustH ((CallF.none.with 94 g1).with 55 g2) := fun b e k H => by rw [w_here]; exact s2 b e k H
  have c2 : ∀ c : UInt8, ∀ H, ((CallF.none.with 94 g1).with 55 g2) 94 [.i .u8 c.toNat, .i .i64 base] H = .val (.tup [.i .u64 (valN c.toNat), .b (decide (valN c.toNat < base))]) H := fun c H => by
   rw [w_other _ _ _ _ rfl, w_here]; exact s1 _ _ (by omega) (by have := c.toNat_lt; omega) hp.2 H
  generalize (CallF.none.with 94 g1).with 55 g2 = call at hC c1 c2;refine XBody.sym TT_ok hC (fn := Tryz.f75) rfl rfl (by simp [Tryz.f75]) tr_rn1 (by kernel_rfl) [.us s, .ui base, .ui at_, .uh []] rfl ⟨by rw [get_init]; rfl, by rw [get_init]; rfl, by rw [get_init]; rfl, trivial⟩ rfl (WF_opq _ _) ?_;simp -implicitDefEqProofs only [VC, isR, exU, Ask.den, forall_eq, E.den, O1.den, O2.den, O3.den, U.int_ui, U.boo_ub, U.val_uv, U.lst_ul, U.str_us, U.nat_un, U.heap_uh, SH.den, setsD, newD, bD, SB.den, factsTo, LQ, List.cons_append, List.nil_append, List.getElem?_cons_zero, List.getElem?_cons_succ, Option.getD_some, ltB_true, ltB_false, leB_true, leB_false, beq_iff_eq, bne_iff_ne, beq_eq_false_iff_ne, Int.toNat_natCast];intro t hw t0 t1 t2 t7;exact Tri.symLoop rfl (head_rn hC c1 base at_ c2 s [] t _ (by simpa using hp.1) hw t0 t1 t2 t7)
 refine ⟨g, k, fun x base at_ hx hb H => ?_⟩;have := s (x, base, at_) ⟨hx, hb⟩ H;rw [this];unfold rnV;cases runF base x 0 <;> rfl
def sgnE : List UInt8 → Nat
 | d :: _ => if d = 43 ∨ d = 45 then 2 else 1
 | [] => 1
def expF : List UInt8 → Option Nat
  | [] => some 0
  | c :: r => if c = 101 ∨ c = 69 then match runF 10 ((c :: r).drop (sgnE r)) 0 with
      | some (k + 1) => some (sgnE r + (k + 1))
      | _ => none
    else some 0
def optR (o : Option Nat) (at_ : Int) : Res := match o with
 | some n => .val (.i .i64 n)
 | none => .pan (fltV 33 at_)
theorem runF_le (base : Int) : ∀ (L : List UInt8) (n m : Nat), runF base L n = some m → m ≤ n + L.length
 | [], n, m, h => by simp only [runF, Option.some.injEq] at h; simp; omega
 | [c], n, m, h => by
  simp only [runF] at h;split at h
  ·simp only [Option.some.injEq] at h; simp; omega
  ·split at h
   ·simp only [Option.some.injEq] at h; simp; omega
   ·cases h
 | c :: d :: r, n, m, h => by
  rw [runF] at h;split at h
  ·have := runF_le base (d :: r) (n + 1) m h;simp only [List.length_cons] at this ⊢; omega
  ·split at h
   ·simp only [Option.some.injEq] at h; simp only [List.length_cons]; omega
   ·split at h
    ·have := runF_le base (d :: r) (n + 1) m h;simp only [List.length_cons] at this ⊢; omega
    ·cases h
theorem tr_ex : codeT TT shp Tryz.f77.ntmps [] (bodyOf Tryz.f77) [] ⟨[(0, .f1 .vs (.va 0)), (1, .f1 (.vi .i64) (.va 1))], ⟨.va 2, [], []⟩, 3, []⟩ (KF TT Tryz.f77 []) = let qd:SH:=⟨v2,[],[]⟩;let qf:E:=xl v0;let qe:E:=x3 (xb (xG v3 c0)) (xi (xc 33)) (xi v1);let qb:Tree:=.need (xE c2 qf) (.asks (.call 75 (x3 (xs (.f3 .sub v0 c2 qf)) (xi c10) (xi v1))) [.i] (xi v3) (.asks (.call 55 qe) [] (.cv (.tup [])) (.fin (xi (xw (xa c2 v3))) qd) (.pnc v4 qd)) (.pnc v3 qd));let qc:Tree:=.need (xE c1 qf) (.asks (.call 75 (x3 (xs (.f3 .sub v0 c1 qf)) (xi c10) (xi v1))) [.i] (xi v3) (.asks (.call 55 qe) [] (.cv (.tup [])) (.fin (xi (xw (xa c1 v3))) qd) (.pnc v4 qd)) (.pnc v3 qd));let qa:Tree:=.ite (xL c1 qf) (.ite (xe (xA v0 c1) (xc 43)) qb (.ite (xe (xA v0 c1) (xc 45)) qb qc)) qc;.ite (xQ v0 (.cs [])) (.fin (xi c0) qd) (.need (xL c0 qf) (.ite (xM (xA v0 c0) (xc 101)) (.ite (xM (xA v0 c0) (xc 69)) (.fin (xi c0) qd) qa) qa)) := by kernel_rfl
theorem sp2077 : ∃ g, SpecOK Tryz.prog TT 77 g ∧ ∀ (s : List UInt8) (at_ : Int), s.length < 1100000 → ∀ H, g [.s s, .i .i64 at_] H = (optR (expF s) at_).at H := by
  obtain ⟨g1, k1, s1⟩ := sp2075
  obtain ⟨g2, k2, s2⟩ := sp2055
  obtain ⟨g, k, s⟩ := spec_fn TT_ok TT_plain 77 (fun p : List UInt8 × Int => [.s p.1, .i .i64 p.2]) (fun p => p.1.length < 1100000) (fun p => optR (expF p.1) p.2) (fun p _ => ⟨rfl, by unfold optR; split <;> rfl⟩)
    (fun a b _ _ h => by
      simp only [List.cons.injEq, V.s.injEq, V.i.injEq, true_and, and_true] at h
      rw [h.1, h.2]) fun p hp => by
    obtain ⟨s, at_⟩ := p
    simp only at hp ⊢
    have hC := ws (ws n0 k1) k2
    have c1 : MustH ((CallF.none.with 75 g1).with 55 g2) := fun b e k H => by rw [w_here]; exact s2 b e k H
    have c2 : ∀ (x : List UInt8), x.length < 1100000 → ∀ H, ((CallF.none.with 75 g1).with 55 g2) 75 [.s x, .i .i64 10, .i .i64 at_] H = (match runF 10 x 0 with | some n => .val (.i .i64 n) H | none => .pan (fltV 33 at_) H) := fun x hx H => by rw [w_other _ _ _ _ rfl, w_here]; exact s1 x 10 at_ hx (by simp) H
    generalize (CallF.none.with 75 g1).with 55 g2 = call at hC c1 c2
    refine XBody.sym TT_ok hC (fn := Tryz.f77) rfl rfl (by simp [Tryz.f77]) tr_ex (by kernel_rfl) [.us s, .ui at_, .uh []] rfl ⟨by rw [get_init]; rfl, by rw [get_init]; rfl, trivial⟩ rfl (WF_opq _ _) ?_
    simp -implicitDefEqProofs only [VC, isR, exU, Ask.den, forall_eq, E.den, O1.den, O2.den, O3.den, U.int_ui, U.boo_ub, U.val_uv, U.lst_ul, U.str_us, U.nat_un, U.heap_uh, SH.den, setsD, newD, bD, SB.den, factsTo, LQ, List.cons_append, List.nil_append, List.getElem?_cons_zero, List.getElem?_cons_succ, Option.getD_some, ltB_true, ltB_false, leB_true, leB_false, beq_iff_eq, bne_iff_ne, beq_eq_false_iff_ne, Int.toNat_natCast]
    have wq : ∀ q k : Nat, q < 1200000 → k < 1200000 → IntKind.i64.wrap ((q : Int) + k) = ((q + k : Nat) : Int) := fun q k h1 h2 => by rw [w64 (by omega) (by omega)]; omega
    have tail : ∀ q : Nat, q ≤ 2 → q ≤ s.length → (expF s = match runF 10 (s.drop q) 0 with | some (k + 1) => some (q + (k + 1)) | _ => none) →
        ((q : Int) ≤ s.length ∧ ((∃ x : Int, (∀ K, call 75 [.s ((s.take s.length).drop q), .i .i64 10, .i .i64 at_] K = .val (.i .i64 x) K) ∧ (((∀ K, call 55 [.b (ltB 0 x), .i .i64 33, .i .i64 at_] K = .val (.tup []) K) ∧ optR (expF s) at_ = .val (.i .i64 (IntKind.i64.wrap ((q : Int) + x)))) ∨ ∃ v, (∀ K, call 55 [.b (ltB 0 x), .i .i64 33, .i .i64 at_] K = .pan v K) ∧ optR (expF s) at_ = .pan v)) ∨ ∃ v, (∀ K, call 75 [.s ((s.take s.length).drop q), .i .i64 10, .i .i64 at_] K = .pan v K) ∧ optR (expF s) at_ = .pan v)) := by
      intro q hq hql he
      refine ⟨by omega, ?_⟩
      rw [List.take_length]
      have hrun := c2 (s.drop q) (by rw [List.length_drop]; omega)
      cases hr : runF 10 (s.drop q) 0 with
      | none =>
        rw [hr] at hrun he
        exact .inr ⟨_, hrun, by rw [he]; rfl⟩
      | some k =>
        rw [hr] at hrun he
        have hle := runF_le 10 _ _ _ hr
        rw [List.length_drop] at hle
        refine .inl ⟨_, hrun, must_ask c1 _ _ _ (fun hb => ?_) fun hb => ?_⟩
        · cases k with
          | zero => exact absurd hb (by decide)
          | succ k =>
            rw [he, wq q (k + 1) (by omega) (by omega)]
            rfl
        · cases k with
          | zero => rw [he]; rfl
          | succ k => rw [ltB_false] at hb; omega
    cases s with
    | nil => exact ⟨fun _ => rfl, fun h => absurd rfl h⟩
    | cons c r =>
      have u8 : ∀ (a : UInt8) (n : Nat), a.toNat = n → ∀ x : UInt8, ((x.toNat : Nat) : Int) = (n : Int) → x = a := fun a n h x hx => UInt8.toNat.inj (by omega)
      have h0 : atS (c :: r) 0 = c.toNat := rfl
      have ex : ∀ q, sgnE r = q → (c = 101 ∨ c = 69) → expF (c :: r) = match runF 10 ((c :: r).drop q) 0 with | some (k + 1) => some (q + (k + 1)) | _ => none := by
        rintro q rfl hc
        simp only [expF, if_pos hc]
      have sg2 : (1 : Int) < (c :: r).length → (atS (c :: r) 1 = 43 ∨ atS (c :: r) 1 = 45) → sgnE r = 2 := fun hl h => by
        cases r with
        | nil => exact absurd hl (by simp only [List.length_cons, List.length_nil]; omega)
        | cons d r =>
          have h1 : atS (c :: d :: r) 1 = d.toNat := rfl
          rw [h1] at h
          simp only [sgnE]
          rw [if_pos (by rcases h with h | h; exact .inl (u8 43 43 rfl d h); exact .inr (u8 45 45 rfl d h))]
      have sg1 : ¬ ((1 : Int) < (c :: r).length ∧ (atS (c :: r) 1 = 43 ∨ atS (c :: r) 1 = 45)) → sgnE r = 1 := fun h => by
        cases r with
        | nil => rfl
        | cons d r =>
          have h1 : atS (c :: d :: r) 1 = d.toNat := rfl
          rw [h1] at h
          simp only [sgnE]
          rw [if_neg (by rintro (rfl | rfl) <;> exact h ⟨by simp only [List.length_cons]; omega, by decide⟩)]
      have hlen : (1 : Int) ≤ (c :: r).length := by simp only [List.length_cons]; omega
      have t1 : (c = 101 ∨ c = 69) → ¬ ((1 : Int) < (c :: r).length ∧ (atS (c :: r) 1 = 43 ∨ atS (c :: r) 1 = 45)) → _ := fun hc h => tail 1 (by omega) (by omega) (ex 1 (sg1 h) hc)
      have t2 : (c = 101 ∨ c = 69) → (1 : Int) < (c :: r).length → (atS (c :: r) 1 = 43 ∨ atS (c :: r) 1 = 45) → _ := fun hc hl h => tail 2 (by omega) (by omega) (ex 2 (sg2 hl h) hc)
      have no : c ≠ 101 → c ≠ 69 → optR (expF (c :: r)) at_ = .val (.i .i64 0) := fun a b => by
        simp only [expF]
        rw [if_neg (by rintro (h | h); exact a h; exact b h)]
        rfl
      refine ⟨fun h => (by cases h), fun _ => ⟨by omega, fun a => ⟨fun b => no (fun e => a (by rw [e]; rfl)) (fun e => b (by rw [e]; rfl)), fun b => ?_⟩, fun a => ?_⟩⟩
      · have hc : c = 101 ∨ c = 69 := .inr (u8 69 69 rfl c (by simpa [h0] using b))
        exact ⟨fun hl => ⟨fun h => t2 hc hl (.inl h), fun h => ⟨fun h' => t2 hc hl (.inr h'), fun h' => t1 hc (fun x => by rcases x.2 with x | x; exact h x; exact h' x)⟩⟩, fun hl => t1 hc (fun x => hl x.1)⟩
      · have hc : c = 101 ∨ c = 69 := .inl (u8 101 101 rfl c (by simpa [h0] using a))
        exact ⟨fun hl => ⟨fun h => t2 hc hl (.inl h), fun h => ⟨fun h' => t2 hc hl (.inr h'), fun h' => t1 hc (fun x => by rcases x.2 with x | x; exact h x; exact h' x)⟩⟩, fun hl => t1 hc (fun x => hl x.1)⟩
  exact ⟨g, k, fun x at_ hx H => s (x, at_) hx H⟩
def ScB (H : Heap) (n : Nat) (s : List UInt8) (i : Nat) (l : Bool) (m : Nat) : Prop := H[n]? = some (some { ty := 55, cells := [.s s, .i .i64 i, .b l, .mp m], kind := .all })
theorem body_2048 {call : CallF} (hC : call.Sound Tryz.prog TT) (H : Heap) (n : Nat) (s : List UInt8) (i : Nat) (l : Bool) (m : Nat) (hb : H[n]? = some (some { ty := 55, cells := [.s s, .i .i64 i, .b l, .mp m], kind := .all })) (hi : (i : Int) ≤ s.length)  : HBody Tryz.prog TT 48 [.ptr n 0] H (fun v H2 => v = .s (s.drop i) ∧ H2 = H) := by
 refine en Tryz.f48 rfl rfl (by simp [Tryz.f48]) 12 rfl fun t hw hg => ?_;have h0 := hg 0 _ rfl;clear hg;try simp only [Nd.enc_eq] at *
 have hF := ai @h0 (ai @hb @hi);apply rS hC
 ·refine oA ?_;rfl
 apply sQ;refine Tri.regN (t' := ?t2) (H' := ?H2) TT_ok hC ?e2 ?q2;case e2 =>
  refine evReg_quiet (t' := ?t2) (by kernel_rfl) ?_ ?r902;iterate 10 refine QR.val rfl (by simp [hF] <;> rfl) (by rfl) (by simp [hw]) ?_
  exact QR.nil;case r902 => exact rfl
 apply sN;apply Tri.ret;refine endsH (by simp [Tryz.f48, hF] <;> rfl) (by rfl) ?_;exact ⟨rfl, rfl⟩
theorem sp2048 : ∃ g, SpecOK Tryz.prog TT 48 g ∧ ∀ (n : Nat) (s : List UInt8) (i : Nat) (l : Bool) (m : Nat) (H : Heap), ScB H n s i l m → i ≤ s.length → g [.ptr n 0] H = .val (.s (s.drop i)) H := by
 obtain ⟨g, h, k⟩ := HFact.spec (F := 48) TT_ok (D := fun vs H => ∃ (n : Nat) (s : List UInt8) (i : Nat) (l : Bool) (m : Nat), ScB H n s i l m ∧ i ≤ s.length ∧ vs = [.ptr n 0]) (R := fun vs H v H2 => ∀ (n : Nat) (s : List UInt8) (i : Nat) (l : Bool) (m : Nat), ScB H n s i l m → vs = [.ptr n 0] → v = .s (s.drop i) ∧ H2 = H) (by
  rintro vs H ⟨n, s, i, l, m, hb, hi, rfl⟩;refine (HBody.fact TT_ok (body_2048 n0 H n s i l m hb (by omega))).mono fun v H2 ⟨h1, h2⟩ => ?_;intro n' s' i' l' m' hb' e;cases e;unfold ScB at hb hb';rw [hb] at hb';simp only [Option.some.injEq, Blk.mk.injEq, List.cons.injEq, V.s.injEq, V.i.injEq, true_and, Int.ofNat_inj] at hb';obtain ⟨⟨rfl, rfl, _⟩, _⟩ := hb';exact ⟨h1, h2⟩)
 refine ⟨g, h, fun n s i l m H hb hi => ?_⟩;obtain ⟨v, H2, h1, h2⟩ := k _ H ⟨n, s, i, l, m, hb, hi, rfl⟩;obtain ⟨rfl, rfl⟩ := h1 n s i l m hb rfl;exact h2
def preR (s p : List UInt8) : Bool := decide (p.length ≤ s.length) && (s.take p.length == p)
theorem preR_begR (s p : List UInt8) : preR s p = begR s 0 p := by simp [preR, begR]
theorem body_2093t {call : CallF} (hC : call.Sound Tryz.prog TT) (s p : List UInt8) (hl : (p.length : Int) ≤ s.length)  : EBody Tryz.prog TT 93 [.s s, .s p] (fun r => r = .val (.b (s.take p.length == p))) := by
 refine en Tryz.f93 rfl rfl (by simp [Tryz.f93]) 18 rfl fun t hw hg => ?_;have h0 := hg 0 _ rfl;have h1 := hg 1 _ rfl;clear hg;try simp only [Nd.enc_eq] at *
 have hF := ai @h0 (ai @h1 @hl);apply rS hC
 ·refine oA ?_;rfl
 apply rS hC
 ·iterate 6 refine oA ?_
  iterate 6 refine oB ?_
  iterate 2 refine oA ?_
  rfl
 apply Tri.ret;refine endsE (by simp [Tryz.f93, hF] <;> rfl) (by rfl) ?_;rfl
theorem body_2093f {call : CallF} (hC : call.Sound Tryz.prog TT) (s p : List UInt8) (hl : ¬ (p.length : Int) ≤ s.length)  : EBody Tryz.prog TT 93 [.s s, .s p] (fun r => r = .val (.b false)) := by
 refine en Tryz.f93 rfl rfl (by simp [Tryz.f93]) 18 rfl fun t hw hg => ?_;have h0 := hg 0 _ rfl;have h1 := hg 1 _ rfl;clear hg;try simp only [Nd.enc_eq] at *
 have hF := ai @h0 (ai @h1 @hl);apply rS hC
 ·refine oA ?_;rfl
 apply rS hC
 ·iterate 6 refine oA ?_
  iterate 6 refine oC ?_
  iterate 2 refine oA ?_
  rfl
 apply Tri.ret;refine endsE (by simp [Tryz.f93, hF] <;> rfl) (by rfl) ?_;rfl
theorem body_2070 {call : CallF} (hC : call.Sound Tryz.prog TT) (s p : List UInt8) (x : Bool) (hq : ∀ H, call 93 [.s s, .s p] H = .val (.b x) H)  : EBody Tryz.prog TT 70 [.s s, .s p] (fun r => r = .val (.b x)) := by
 refine en Tryz.f70 rfl rfl (by simp [Tryz.f70]) 8 rfl fun t hw hg => ?_;have h0 := hg 0 _ rfl;have h1 := hg 1 _ rfl;clear hg;try simp only [Nd.enc_eq] at *
 have hF := ai @h0 (ai @h1 @hq);apply rS hC
 ·refine oA ?_;rfl
 apply rS hC
 ·iterate 4 refine oA ?_
  rfl
 apply Tri.ret;refine endsE (by simp [Tryz.f70, hF] <;> rfl) (by rfl) ?_;rfl
theorem sp2093 : ∃ g, SpecOK Tryz.prog TT 93 g ∧ ∀ p : List UInt8 × List UInt8, True → ∀ H, g [.s p.1, .s p.2] H = .val (.b (preR p.1 p.2)) H := by
 refine spec_val TT_ok TT_plain 93 (fun p : List UInt8 × List UInt8 => [.s p.1, .s p.2]) (fun _ => True) (fun p => .b (preR p.1 p.2)) (fun _ _ => rfl) (fun _ => rfl) (fun a b h => by simp only [List.cons.injEq, V.s.injEq, and_true] at h; rw [h.1, h.2]) fun p _ => EBody.of2 ?_;by_cases h : p.2.length ≤ p.1.length
 ·have e : preR p.1 p.2 = (p.1.take p.2.length == p.2) := by simp [preR, h]
  rw [e];exact body_2093t n0 p.1 p.2 (by omega)
 ·have e : preR p.1 p.2 = false := by simp [preR, h]
  rw [e];exact body_2093f n0 p.1 p.2 (by omega)
theorem sp2070 : ∃ g, SpecOK Tryz.prog TT 70 g ∧ ∀ (s p : List UInt8) (H : Heap), g [.s s, .s p] H = .val (.b (preR s p)) H := by
 obtain ⟨g1, k1, s1⟩ := sp2093;obtain ⟨g, h, s⟩ := spec_val TT_ok TT_plain 70 (fun p : List UInt8 × List UInt8 => [.s p.1, .s p.2]) (fun _ => True) (fun p => .b (preR p.1 p.2)) (fun _ _ => rfl) (fun _ => rfl) (fun a b h => by simp only [List.cons.injEq, V.s.injEq, and_true] at h; rw [h.1, h.2]) fun p _ => EBody.of2 (body_2070 (ws n0 k1) p.1 p.2 _ fun H => by rw [w_here]; exact s1 p trivial H);exact ⟨g, h, fun x p H => s (x, p) trivial H⟩
end Go.Ev
